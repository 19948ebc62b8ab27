/- What the reference of ustar computes, in closed form. Conditions: as each theorem says. -/
import Derived.Test.YtkdklgcjimnabaaUPA
import Derived.Test.YtkdklgcjimnabaaPUstarx8
import Derived.Test.YtkdklgcjimnabaaPUstarx9
import Derived.KernelRfl
namespace Go.Proofs.Ytkdklgcjimnabaa.PUstar
open Go.RowKit Go.Proofs.YtkdklgcjimnabaaW.PrintWords Go.Proofs.YtkdklgcjimnabaaW.PrintLast
set_option linter.unusedVariables false
set_option linter.unusedSimpArgs false
namespace UP
open UM CopyS
theorem fpe_f (p : ByteArray) (hp : p.size ≤ 140737488351232) (k : Nat) (hk : p.size + 2 ≤ k) : ustar_FitsPath.f k p = some (splitS p).2.2 := by
  unfold ustar_FitsPath.f; rw [split_f p hp k hk]; rfl
theorem bt_list (s : ByteArray) (i : Nat) (h : i < s.data.toList.length) : bt s (i : Int) = ((s.data.toList[i].toNat : Nat) : Int) := by
  have hl : s.data.toList.length = s.size := data_length s
  have q := bt_at s (i : Int) (by omega)
  rw [← q]
  simp [ByteArray.getElem_eq_getElem_data]
theorem plain_l (s : ByteArray) (hs : s.size ≤ 140737488351232) : ∀ (m i k : Nat), i + m = s.size → m + 1 ≤ k → amphoraref10_plain.l0 k s (i : Int) = some ((s.data.toList.drop i).all (fun c => decide (c ≠ 0) && decide (c ≤ 127))) := by
  have hl : s.data.toList.length = s.size := data_length s
  intro m
  induction m with
  | zero =>
    intro i k h hk
    obtain ⟨k, rfl⟩ : ∃ j, k = j + 1 := ⟨k - 1, by omega⟩
    simp only [amphoraref10_plain.l0]
    rw [if_neg (by omega), List.drop_eq_nil_of_le (by omega)]; rfl
  | succ m ih =>
    intro i k h hk
    obtain ⟨k, rfl⟩ : ∃ j, k = j + 1 := ⟨k - 1, by omega⟩
    have hi : i < s.data.toList.length := by omega
    have e1 : wrap64 ((i : Int) + 1) = ((i + 1 : Nat) : Int) := by rw [UP.w64 (by omega) (by omega)]; omega
    simp only [amphoraref10_plain.l0, e1, bt_list s i hi]
    rw [if_pos (by omega), if_pos (by omega), List.drop_eq_getElem_cons hi, List.all_cons]
    show _ = some ((decide (s.data.toList[i] ≠ 0) && decide (s.data.toList[i] ≤ 127)) && _)
    by_cases h1 : s.data.toList[i] = 0
    · have : s.data.toList[i].toNat = 0 := by rw [h1]; rfl
      rw [if_pos (by omega)]; simp [h1]
    · have h1' : s.data.toList[i].toNat ≠ 0 := fun h => h1 (UInt8.toNat_inj.1 h)
      by_cases h2 : s.data.toList[i] ≤ 127
      · have h2' : s.data.toList[i].toNat ≤ 127 := h2
        rw [if_neg (by omega), if_neg (by omega), ih (i + 1) k (by omega) (by omega), decide_eq_true h1, decide_eq_true h2]; rfl
      · have h2' : ¬ s.data.toList[i].toNat ≤ 127 := h2
        rw [if_neg (by omega), if_pos (by omega), decide_eq_false h2, Bool.and_false]; rfl
theorem plain_f (s : ByteArray) (hs : s.size ≤ 140737488351232) (k : Nat) (hk : s.size + 1 ≤ k) : amphoraref10_plain.f k s = some (asciiB s) := by
  have := plain_l s hs s.size 0 k (by omega) hk
  exact this
theorem cut_end (s : ByteArray) : ∀ (n i : Nat), i + n + 1 = s.size → cut s n i = cut s (n + 1) i := by
  intro n
  induction n with
  | zero => intro i h; unfold cut; rw [if_neg (by omega)]; rfl
  | succ n ih =>
    intro i h
    rw [cut, cut]
    split
    · rfl
    · exact ih (i + 1) (by omega)
theorem path_l (s : ByteArray) (hs : s.size ≤ 140737488351232) : ∀ (n i k : Nat), i + n + 1 = s.size → 1 ≤ i → n + 1 ≤ k → amphoraref10_Path.l0 k s (i : Int) = some (cut s n i) := by
  intro n
  induction n with
  | zero =>
    intro i k hi h1 hk
    obtain ⟨k, rfl⟩ : ∃ j, k = j + 1 := ⟨k - 1, by omega⟩
    simp only [amphoraref10_Path.l0]
    rw [UP.w64 (by omega) (by omega), if_neg (by omega)]; rfl
  | succ n ih =>
    intro i k hi h2 hk
    obtain ⟨k, rfl⟩ : ∃ j, k = j + 1 := ⟨k - 1, by omega⟩
    have e1 : wrap64 ((i : Int) + 1) = ((i + 1 : Nat) : Int) := by rw [UP.w64 (by omega) (by omega)]; omega
    have e0 : wrap64 ((s.size : Int) - 1) = (s.size : Int) - 1 := UP.w64 (by omega) (by omega)
    have e2 : wrap64 ((s.size : Int) - 1 - (i : Int)) = (s.size : Int) - 1 - (i : Int) := UP.w64 (by omega) (by omega)
    simp only [amphoraref10_Path.l0, e0, e1, e2, ih (i + 1) k (by omega) (by omega) (by omega), cut]
    rw [if_pos (by omega), if_pos (by omega), if_pos (by omega : (i : Int) < (s.size : Int))]
    by_cases h1 : bt s i = 47
    · by_cases h3 : i ≤ 155
      · by_cases h5 : s.size ≤ i + 101
        · rw [if_pos h1, if_pos (by omega), if_pos (by omega), if_pos (by omega), if_pos (by omega), if_pos (by omega), if_pos ⟨h1, h2, h3, by omega, h5⟩]
          have e3 : ((i : Nat) : Int).toNat = i := by omega
          have e4 : ((i + 1 : Nat) : Int).toNat = i + 1 := by omega
          rw [e3, e4]
        · rw [if_pos h1, if_pos (by omega), if_neg (by omega), if_neg (fun h => h5 h.2.2.2.2)]
      · rw [if_pos h1, if_neg (by omega), if_neg (fun h => h3 h.2.2.1)]
    · rw [if_neg h1, if_neg (fun h => h1 h.1)]
theorem path_f (p : ByteArray) (hs : p.size ≤ 140737488351232) (k : Nat) (hk : p.size + 2 ≤ k) : amphoraref10_Path.f k p = some (splitS p) := by
  obtain ⟨k, rfl⟩ : ∃ j, k = j + 1 := ⟨k - 1, by omega⟩
  unfold amphoraref10_Path.f splitS
  by_cases h0 : p.size = 0
  · rw [if_pos (by omega), if_pos (.inl h0)]; simp only [amphoraref10_Path.j0, if_true]
  · rw [if_neg (by omega), plain_f p hs (k + 1) (by omega)]
    simp only [Option.bind_some, amphoraref10_Path.j0]
    cases hA : asciiB p with
    | false => rw [if_pos (by rfl), if_pos (.inr rfl)]
    | true =>
      rw [if_neg (c := (!true) = true) (by decide), if_neg (c := p.size = 0 ∨ true = false) (fun h => h.elim h0 (fun h => by cases h))]
      by_cases h1 : p.size ≤ 100
      · rw [if_pos (by omega), if_pos h1]
      · rw [if_neg (by omega), if_neg h1]
        have := path_l p hs (p.size - 2) 1 k (by omega) (by omega) (by omega)
        rw [show ((1 : Nat) : Int) = 1 by rfl] at this
        rw [this, cut_end p (p.size - 2) 1 (by omega)]
        obtain ⟨m, hm⟩ : ∃ m, p.size = m + 2 := ⟨p.size - 2, by omega⟩
        have e : p.size - 2 + 1 = m + 1 := by omega
        rw [e]
        have st : cut p (m + 1 + 1) 0 = cut p (m + 1) 1 := by rw [cut]; exact if_neg (fun h => by omega)
        rw [hm]; exact congrArg some st.symm
theorem rlk_f (l : ByteArray) (k : Nat) (hk : 200 ≤ k) : amphoraref10_Link.f k l = some (lkB l) := by
  unfold amphoraref10_Link.f lkB
  by_cases h0 : l.size = 0
  · rw [if_neg (by omega)]; simp [h0]
  · rw [if_pos (by omega)]
    by_cases h1 : l.size ≤ 100
    · rw [if_pos (by omega), plain_f l (by omega) k (by omega)]; simp [h0, h1]
    · rw [if_neg (by omega)]; simp [h1]
theorem rid_f (n : Int) : amphoraref10_Id.f n = some (idB n) := by
  unfold amphoraref10_Id.f idB
  by_cases h : 0 ≤ n
  · rw [if_pos h]; simp only [h, decide_true, Bool.true_and]; congr 1; rw [decide_eq_decide]; omega
  · rw [if_neg h]; simp [h]
theorem rtm_f (n : Int) : amphoraref10_Time.f n = some (tmB n) := by
  unfold amphoraref10_Time.f tmB
  by_cases h : 0 ≤ n
  · rw [if_pos h]; simp only [h, decide_true, Bool.true_and]; congr 1; rw [decide_eq_decide]; omega
  · rw [if_neg h]; simp [h]
theorem rfits_j (k : Nat) (ok : Bool) (p : ByteArray) (mode uid gid size time typ : Int) (link : ByteArray) (hk : 300 ≤ k) : amphoraref10_Fits.j0 (k + 2) ok p mode uid gid size time typ link = some (ok && tyB size typ link) := by
  rw [amphoraref10_Fits.j0.eq_2]
  unfold tyB
  by_cases h1 : typ = 49
  · subst h1
    rw [if_pos rfl, if_pos (.inl rfl), amphoraref10_Fits.j1.eq_2, if_pos rfl]
    cases ok with
    | false => simp
    | true =>
      rw [if_pos rfl, rlk_f link k (by omega), Option.bind_some]
      cases lkB link <;> simp
  · rw [if_neg h1]
    by_cases h2 : typ = 50
    · subst h2
      rw [if_pos (.inr rfl), amphoraref10_Fits.j1.eq_2, if_pos (by rfl)]
      cases ok with
      | false => simp
      | true =>
        rw [if_pos rfl, rlk_f link k (by omega), Option.bind_some]
        cases lkB link <;> simp
    · have hb : (typ == 50) = false := beq_eq_false_iff_ne.2 h2
      rw [if_neg (by omega), hb, amphoraref10_Fits.j1.eq_2, if_neg (by decide)]
      by_cases h4 : typ = 48
      · subst h4
        rw [if_pos rfl, if_neg (c := (48 : Int) = 53) (by decide), if_pos (c := (48 : Int) = 48 ∨ (48 : Int) = 120) (.inl rfl)]
        cases ok with
        | false => simp
        | true =>
          rw [if_pos rfl]
          by_cases h0 : link.size = 0
          · rw [if_pos (size_nil.2 h0), h0]; simp
          · have q : (link.size == 0) = false := beq_eq_false_iff_ne.2 h0
            rw [if_neg (fun h => h0 (size_nil.1 h)), q]; rfl
      · rw [if_neg h4]
        by_cases h5 : typ = 120
        · subst h5
          rw [if_pos rfl, if_neg (c := (120 : Int) = 53) (by decide), if_pos (c := (120 : Int) = 48 ∨ (120 : Int) = 120) (.inr rfl)]
          cases ok with
          | false => simp
          | true =>
            rw [if_pos rfl]
            by_cases h0 : link.size = 0
            · rw [if_pos (size_nil.2 h0), h0]; simp
            · have q : (link.size == 0) = false := beq_eq_false_iff_ne.2 h0
              rw [if_neg (fun h => h0 (size_nil.1 h)), q]; rfl
        · rw [if_neg h5]
          by_cases h3 : typ = 53
          · subst h3
            rw [if_pos rfl, if_pos rfl]
            cases ok with
            | false => simp
            | true =>
              rw [if_pos rfl]
              by_cases h0 : link.size = 0
              · rw [if_pos (size_nil.2 h0), h0]
                by_cases h6 : size = 0
                · rw [if_pos h6, h6]; rfl
                · have q : (size == 0) = false := beq_eq_false_iff_ne.2 h6
                  rw [if_neg h6, q]; rfl
              · have q : (link.size == 0) = false := beq_eq_false_iff_ne.2 h0
                rw [if_neg (fun h => h0 (size_nil.1 h)), q]; rfl
          · rw [if_neg h3, if_neg h3, if_neg (by omega)]; simp
theorem rfits_f (p : ByteArray) (hp : p.size ≤ 140737488351232) (mode uid gid size time typ : Int) (link : ByteArray) (k : Nat) (hk : p.size + 400 ≤ k) : amphoraref10_Fits.f k p mode uid gid size time typ link = some ((splitS p).2.2 && fitsS mode uid gid size time typ link) := by
  obtain ⟨k, rfl⟩ : ∃ j, k = j + 2 := ⟨k - 2, by omega⟩
  have J := fun ok => rfits_j k ok p mode uid gid size time typ link (by omega)
  simp only [amphoraref10_Fits.f, rid_f, rtm_f, path_f p hp (k + 2) (by omega), Option.bind_some, J, fitsS]
  cases (splitS p).2.2
  · simp
  cases idB mode
  · simp
  cases idB uid
  · simp
  cases idB gid
  · simp
  cases tmB size
  · simp
  simp
theorem roct_l (d : Nat) (hd : d ≤ 1000) : ∀ (m : Nat) (n : Int) (s : ByteArray) (i k : Nat), i + m = d → s.size ≤ i → 0 ≤ n → n < 9223372036854775808 → m + 1 ≤ k →
    amphoraref10_octal.l0 k n (d : Int) s (i : Int) = some (strOfNums (od n m) ++ s) := by
  intro m
  induction m with
  | zero =>
    intro n s i k h hs h0 h1 hk
    obtain ⟨k, rfl⟩ : ∃ j, k = j + 1 := ⟨k - 1, by omega⟩
    simp only [amphoraref10_octal.l0]
    rw [if_neg (by omega)]; exact congrArg some (ByteArray.ext (by simp [od, strOfNums]))
  | succ m ih =>
    intro n s i k h hs h0 h1 hk
    obtain ⟨k, rfl⟩ : ∃ j, k = j + 1 := ⟨k - 1, by omega⟩
    have e1 : wrap64 ((i : Int) + 1) = ((i + 1 : Nat) : Int) := by rw [UP.w64 (by omega) (by omega)]; omega
    have e2 : wrap64 (Int.tdiv n 8) = n / 8 := by rw [Int.tdiv_eq_ediv_of_nonneg h0, UP.w64 (by omega) (by omega)]
    have e3 : (wrap64 (48 + Int.tmod n 8)) % 256 = 48 + n % 8 := by rw [Int.tmod_eq_emod_of_nonneg h0, UP.w64 (by omega) (by omega)]; omega
    simp only [amphoraref10_octal.l0, e1, e2, e3, Option.bind_some]
    rw [if_pos (by omega), if_pos (by rw [strOfNums_size]; show 1 + s.size ≤ _; omega), ih (n / 8) _ (i + 1) k (by omega) (by rw [ByteArray.size_append, strOfNums_size]; show 1 + s.size ≤ _; omega) (by omega) (by omega) (by omega), od, str_append, ByteArray.append_assoc]
theorem append_empty (s : ByteArray) : s ++ (⟨#[]⟩ : ByteArray) = s := by apply ByteArray.ext; simp
theorem roct_f (n : Int) (d : Nat) (hd : d ≤ 1000) (h0 : 0 ≤ n) (h1 : n < 9223372036854775808) (k : Nat) (hk : d + 1 ≤ k) : amphoraref10_octal.f k n (d : Int) = some (strOfNums (od n d)) := by
  have := roct_l d hd d n ⟨#[]⟩ 0 k (by omega) (by decide) h0 h1 hk
  rw [append_empty] at this; exact this
theorem rtext_l (n : Nat) (hn : n ≤ 1000) : ∀ (m i k : Nat) (x : List Int), i + m = n → x.length ≤ 100000 + i → m + 1 ≤ k → amphoraref10_text.l0 k x (n : Int) (i : Int) = some (x ++ List.replicate m 0) := by
  intro m
  induction m with
  | zero =>
    intro i k x h hx hk
    obtain ⟨k, rfl⟩ : ∃ j, k = j + 1 := ⟨k - 1, by omega⟩
    simp only [amphoraref10_text.l0]
    rw [if_neg (by omega)]; simp
  | succ m ih =>
    intro i k x h hx hk
    obtain ⟨k, rfl⟩ : ∃ j, k = j + 1 := ⟨k - 1, by omega⟩
    have e1 : wrap64 ((i : Int) + 1) = ((i + 1 : Nat) : Int) := by rw [UP.w64 (by omega) (by omega)]; omega
    simp only [amphoraref10_text.l0, e1]
    rw [if_pos (by omega), if_pos (by omega), ih (i + 1) k (x ++ [0]) (by omega) (by simp; omega) (by omega), List.append_assoc]; rfl
theorem rtext_f (l : List Int) (s : ByteArray) (n : Nat) (hl : l.length ≤ 90000) (hs : s.size ≤ n) (hn : n ≤ 1000) (k : Nat) (hk : n + 1 ≤ k) : amphoraref10_text.f k l s (n : Int) = some (l ++ padf s n) := by
  unfold amphoraref10_text.f
  rw [if_pos (by omega), rtext_l n hn (n - s.size) s.size k (l ++ bytesOf s) (by omega) (by rw [List.length_append, bytesOf_length]; omega) (by omega), List.append_assoc]; rfl
theorem pad_od (n : Int) (d : Nat) : padf (strOfNums (od n d)) (d + 1) = od n d ++ [0] := by
  unfold padf
  rw [sb_str _ (By_od n d), strOfNums_size, od_length, Nat.add_sub_cancel_left]; rfl
theorem zlen {a b : List Int} {n m : Nat} (ha : a.length = n) (hb : b.length = m) : (a ++ b).length = n + m := by rw [List.length_append, ha, hb]
/-- The reference's block. -/
theorem rput_f (p : ByteArray) (hp : p.size ≤ 140737488351232) (mode uid gid size time typ : Int) (link sum : ByteArray) (hS : (splitS p).2.2 = true) (hF : fitsS mode uid gid size time typ link = true) (hs : sum.size = 8) (k : Nat) (hk : p.size + 400 ≤ k) :
    amphoraref10_put.f k p mode uid gid size time typ link sum = some (blkS (splitS p).1 (splitS p).2.1 mode uid gid size time typ link (sbytes sum)) := by
  have s := split_ok hS
  have hl := ty_link (fits_ty hF)
  have hf := hF
  unfold fitsS idB tmB at hf
  simp only [Bool.and_eq_true, decide_eq_true_eq] at hf
  obtain ⟨⟨m0, m1⟩, ⟨u0, u1⟩, ⟨g0, g1⟩, ⟨s0, s1⟩, ⟨t0, t1⟩, _⟩ := hf
  have b1 : ∀ s : ByteArray, (bytesOf s).length = s.size := bytesOf_length
  have one : ∀ x : Int, [x].length = 1 := fun _ => rfl
  have two : (⟨#[48, 48]⟩ : ByteArray).size = 2 := rfl
  unfold amphoraref10_put.f
  rw [path_f p hp k (by omega), Option.bind_some]
  generalize (splitS p).1 = pre at *
  generalize (splitS p).2.1 = name at *
  have lp := padf_length name 100 s.n2
  have lk := padf_length link 100 hl
  have lq := padf_length pre 155 s.p1
  have sz : ∀ n d, (strOfNums (od n d)).size = d := fun n d => by rw [strOfNums_size, od_length]
  have c1 := rtext_f [] name 100 (by decide) s.n2 (by omega) k (by omega)
  rw [List.nil_append] at c1
  have o1 := roct_f mode 7 (by omega) m0 (by omega) k (by omega)
  have o2 := roct_f uid 7 (by omega) u0 (by omega) k (by omega)
  have o3 := roct_f gid 7 (by omega) g0 (by omega) k (by omega)
  have o4 := roct_f size 11 (by omega) s0 (by omega) k (by omega)
  have o5 := roct_f time 11 (by omega) t0 (by omega) k (by omega)
  have f7 : ∀ (l : List Int) (n : Int), l.length ≤ 9000 → amphoraref10_text.f k l (strOfNums (od n 7)) 8 = some (l ++ (od n 7 ++ [0])) := fun l n h => by
    have := rtext_f l (strOfNums (od n 7)) 8 (by omega) (by rw [sz]; omega) (by omega) k (by omega)
    rw [pad_od] at this; exact this
  have f11 : ∀ (l : List Int) (n : Int), l.length ≤ 9000 → amphoraref10_text.f k l (strOfNums (od n 11)) 12 = some (l ++ (od n 11 ++ [0])) := fun l n h => by
    have := rtext_f l (strOfNums (od n 11)) 12 (by omega) (by rw [sz]; omega) (by omega) k (by omega)
    rw [pad_od] at this; exact this
  have ft : ∀ (l : List Int) (s : ByteArray) (n : Nat), l.length ≤ 9000 → s.size ≤ n → n ≤ 200 → amphoraref10_text.f k l s (n : Int) = some (l ++ padf s n) := fun l s n h1 h2 h3 => rtext_f l s n (by omega) h2 (by omega) k (by omega)
  rw [show amphoraref10_text.f k [] name 100 = _ from c1, Option.bind_some, show amphoraref10_octal.f k mode 7 = _ from o1, Option.bind_some, f7 _ _ (by omega), Option.bind_some]
  have l1 := zlen lp (zlen (od_length mode 7) (one 0))
  rw [show amphoraref10_octal.f k uid 7 = _ from o2, Option.bind_some, f7 _ _ (by omega), Option.bind_some]
  have l2 := zlen l1 (zlen (od_length uid 7) (one 0))
  rw [show amphoraref10_octal.f k gid 7 = _ from o3, Option.bind_some, f7 _ _ (by omega), Option.bind_some]
  have l3 := zlen l2 (zlen (od_length gid 7) (one 0))
  rw [show amphoraref10_octal.f k size 11 = _ from o4, Option.bind_some, f11 _ _ (by omega), Option.bind_some]
  have l4 := zlen l3 (zlen (od_length size 11) (one 0))
  rw [show amphoraref10_octal.f k time 11 = _ from o5, Option.bind_some, f11 _ _ (by omega), Option.bind_some]
  have l5 := zlen l4 (zlen (od_length time 11) (one 0))
  rw [if_pos (by omega), Option.bind_some]
  have l6 := zlen l5 ((b1 sum).trans hs)
  rw [if_pos (by omega)]
  have l7 := zlen l6 (one typ)
  have q1 := ft _ link 100 (by rw [l7]; omega) hl (by omega)
  rw [show amphoraref10_text.f k _ link 100 = _ from q1, Option.bind_some]
  have l8 := zlen l7 lk
  have q2 := ft _ (⟨#[117, 115, 116, 97, 114]⟩ : ByteArray) 6 (by rw [l8]; omega) (by decide) (by omega)
  rw [show amphoraref10_text.f k _ (⟨#[117, 115, 116, 97, 114]⟩ : ByteArray) 6 = _ from q2, Option.bind_some]
  have l9 := zlen l8 (padf_length (⟨#[117, 115, 116, 97, 114]⟩ : ByteArray) 6 (by decide))
  rw [if_pos (by omega)]
  have l10 := zlen l9 ((b1 (⟨#[48, 48]⟩ : ByteArray)).trans two)
  have q3 := ft _ (⟨#[]⟩ : ByteArray) 64 (by rw [l10]; omega) (by decide) (by omega)
  rw [show amphoraref10_text.f k _ (⟨#[]⟩ : ByteArray) 64 = _ from q3, Option.bind_some]
  have l11 := zlen l10 (padf_length (⟨#[]⟩ : ByteArray) 64 (by decide))
  have q4 := ft _ (⟨#[48, 48, 48, 48, 48, 48, 48]⟩ : ByteArray) 8 (by rw [l11]; omega) (by decide) (by omega)
  rw [show amphoraref10_text.f k _ (⟨#[48, 48, 48, 48, 48, 48, 48]⟩ : ByteArray) 8 = _ from q4, Option.bind_some]
  have l12 := zlen l11 (padf_length (⟨#[48, 48, 48, 48, 48, 48, 48]⟩ : ByteArray) 8 (by decide))
  have q5 := ft _ (⟨#[48, 48, 48, 48, 48, 48, 48]⟩ : ByteArray) 8 (by rw [l12]; omega) (by decide) (by omega)
  rw [show amphoraref10_text.f k _ (⟨#[48, 48, 48, 48, 48, 48, 48]⟩ : ByteArray) 8 = _ from q5, Option.bind_some]
  have l13 := zlen l12 (padf_length (⟨#[48, 48, 48, 48, 48, 48, 48]⟩ : ByteArray) 8 (by decide))
  have q6 := ft _ pre 155 (by rw [l13]; omega) s.p1 (by omega)
  rw [show amphoraref10_text.f k _ pre 155 = _ from q6, Option.bind_some]
  have l14 := zlen l13 lq
  have q7 := ft _ (⟨#[]⟩ : ByteArray) 12 (by rw [l14]; omega) (by decide) (by omega)
  rw [show amphoraref10_text.f k _ (⟨#[]⟩ : ByteArray) 12 = _ from q7, Option.bind_some]
  have e1 : padf (⟨#[117, 115, 116, 97, 114]⟩ : ByteArray) 6 ++ bytesOf (⟨#[48, 48]⟩ : ByteArray) = sbytes magicS := by rfl
  have e2 : padf (⟨#[48, 48, 48, 48, 48, 48, 48]⟩ : ByteArray) 8 = od 0 7 ++ [0] := by rfl
  have e3 : padf (⟨#[]⟩ : ByteArray) 64 = zs 64 := by rfl
  have e4 : padf (⟨#[]⟩ : ByteArray) 12 = zs 12 := by rfl
  have e5 : bytesOf sum = sbytes sum := rfl
  unfold blkS blkOf
  rw [← e1, e2, e3, e4, e5]
  simp only [List.append_assoc]
theorem renc_l (X : List Int) (hb : By X) (hX : X.length ≤ 100000) (p : ByteArray) (mode uid gid size time typ : Int) (link : ByteArray) (k : Nat) : ∀ (m i : Nat) (a : Int), i + m = X.length → 0 ≤ a → a ≤ 300 * i →
    amphoraref10_Encode.l0 (k + 1 + m) X a (i : Int) p mode uid gid size time typ link = amphoraref10_Encode.l0 (k + 1) X (a + tot (X.drop i)) (X.length : Int) p mode uid gid size time typ link := by
  intro m
  induction m with
  | zero =>
    intro i a h h0 h1
    have : i = X.length := by omega
    subst this
    rw [List.drop_length]; simp [tot]
  | succ m ih =>
    intro i a h h0 h1
    have hi : i < X.length := by omega
    have hr := rd_at X i hi
    have hbd := hb X[i] (List.getElem_mem hi)
    have e1 : wrap64 ((i : Int) + 1) = ((i + 1 : Nat) : Int) := by rw [UP.w64 (by omega) (by omega)]; omega
    have e2 : wrap64 (a + wrap64 (rd X (i : Int))) = a + X[i] := by rw [hr, UP.w64 (n := X[i]) (by omega) (by omega), UP.w64 (by omega) (by omega)]
    have e3 : tot (X.drop i) = X[i] + tot (X.drop (i + 1)) := by rw [List.drop_eq_getElem_cons hi, tot]
    rw [show k + 1 + (m + 1) = (k + 1 + m) + 1 by omega, amphoraref10_Encode.l0.eq_2, e1, e2, e3, if_pos (by omega), if_pos (by omega), ih (i + 1) _ (by omega) (by omega) (by omega)]
    rw [Int.add_assoc]
def numE : Option Int → Int
  | none => 0
  | some v => v
theorem renc_f (p : ByteArray) (mode uid gid size time typ : Int) (link : ByteArray) (hp : p.size ≤ 140737488351232) (ht : 0 ≤ typ ∧ typ < 256) (k : Nat) (hk : p.size + 2000 ≤ k) :
    amphoraref10_Encode.f k p mode uid gid size time typ link = some ((encV p mode uid gid size time typ link).1, numE (encV p mode uid gid size time typ link).2) := by
  unfold amphoraref10_Encode.f
  rw [rfits_f p hp mode uid gid size time typ link k (by omega), Option.bind_some]
  unfold encV
  cases hS : (splitS p).2.2 with
  | false => rw [Bool.false_and, if_neg (by decide), if_neg (fun h => by cases h.1)]; rfl
  | true =>
    cases hF : fitsS mode uid gid size time typ link with
    | false => rw [if_neg (by decide), if_neg (fun h => by cases h.2)]; rfl
    | true =>
      rw [if_pos (by rfl), if_pos ⟨rfl, rfl⟩, rput_f p hp mode uid gid size time typ link _ hS hF (by rfl) k (by omega), Option.bind_some]
      have s := split_ok hS
      have hl := ty_link (fits_ty hF)
      have hsp : sbytes (⟨#[32, 32, 32, 32, 32, 32, 32, 32]⟩ : ByteArray) = spaces := by rfl
      have hBs : By spaces := fun x hx => by have := List.eq_of_mem_replicate hx; omega
      rw [hsp]
      have hX := blk_length (pre := (splitS p).1) (name := (splitS p).2.1) (mode := mode) (uid := uid) (gid := gid) (size := size) (time := time) (typ := typ) (sum := spaces) s.n2 s.p1 hl (by decide)
      have hB := By_blk (pre := (splitS p).1) (name := (splitS p).2.1) (mode := mode) (uid := uid) (gid := gid) (size := size) (time := time) (link := link) ht hBs
      have hT := tot_lt _ hB
      rw [hX] at hT
      unfold encS
      generalize blkS (splitS p).1 (splitS p).2.1 mode uid gid size time typ link spaces = X at *
      obtain ⟨j, rfl⟩ : ∃ j, k = j + 1 + 512 := ⟨k - 513, by omega⟩
      have := renc_l X hB (by omega) p mode uid gid size time typ link j 512 0 0 (by omega) (by omega) (by omega)
      rw [List.drop_zero, Int.zero_add] at this
      refine Eq.trans this ?_
      rw [amphoraref10_Encode.l0.eq_2, if_neg (by omega), show amphoraref10_octal.f j (tot X) 6 = _ from roct_f (tot X) 6 (by omega) hT.1 (by omega) j (by omega), Option.bind_some]
      have e6 : sbytes (strOfNums (od (tot X) 6) ++ (⟨#[0, 32]⟩ : ByteArray)) = sumF (tot X) := by rw [sb_append, sb_str _ (By_od _ _)]; rfl
      rw [if_pos (by rw [strOfNums_size, od_length]; omega), rput_f p hp mode uid gid size time typ link _ hS hF (by rw [ByteArray.size_append, strOfNums_size, od_length]; rfl) j (by omega), Option.bind_some, e6]
      rfl
theorem encV_err (p : ByteArray) (mode uid gid size time typ : Int) (link : ByteArray) : (encV p mode uid gid size time typ link).2 = none ∨ (encV p mode uid gid size time typ link).2 = some 14 := by
  unfold encV; split
  · exact .inl rfl
  · exact .inr rfl
theorem num_e {e : Option Int} (h : e = none ∨ e = some 14) : amphoranum_Num.f e = some (numE e) := by
  rcases h with rfl | rfl <;> rfl
end UP
end Go.Proofs.Ytkdklgcjimnabaa.PUstar
