/- copy(v[off:], s) of a string onto a row of bytes of one's own: a law for the walk. Conditions: as the theorem says. -/
import Derived.Test.YtkdklgcjimnabaaWWords
namespace Go.Proofs.Ytkdklgcjimnabaa.CopyS
open Go.RowKit Go.Proofs.YtkdklgcjimnabaaW.PrintWords
set_option linter.unusedVariables false
set_option linter.unusedSimpArgs false
/-- A string's bytes as numbers. -/
def sbytes (s : ByteArray) : List Int := s.data.toList.map (fun b => ((b.toNat : Nat) : Int))
theorem sbytes_length (s : ByteArray) : (sbytes s).length = s.size := by unfold sbytes; rw [List.length_map, Array.length_toList]; rfl
/-- The row behind copy(l[off:], s). -/
def copyL (l : List Int) (off : Nat) (s : ByteArray) : List Int := l.take off ++ ((sbytes s).take (l.length - off) ++ l.drop (off + min s.size (l.length - off)))
theorem copyL_length (l : List Int) (off : Nat) (s : ByteArray) (h : off ≤ l.length) : (copyL l off s).length = l.length := by
  simp only [copyL, List.length_append, List.length_take, List.length_drop, sbytes_length]; omega
theorem firstCells_str {P : Program} (w : World) (s : ByteArray) (n : Nat) : (Builtin.firstCells 1 n (.string s)).run P w = .ok (((sbytes s).take n).map (Value.int .u8)).toArray w := by
  have e : (s.extract 0 n).data.map (fun b => Value.int .u8 b.toNat) = (((sbytes s).take n).map (Value.int .u8)).toArray := by
    apply Array.ext'
    simp [sbytes, List.map_take, ByteArray.extract, ByteArray.copySlice, Function.comp_def]
  show Result.ok _ w = _
  rw [e]
theorem copy_run {P : Program} {o : Oper} {a : Act} {W : World} {base : Nat} (s x : Operand) (t t' e : TypeId)
    (ho : o.op = .call { callee := .builtin .copy, args := #[s, x], argTypes := #[t, t'] }) (ht : P.underlying t = some (.slice e)) (hinfo : (P.info? e).map (·.size) = some 1)
    (cap off n m c : Nat) (A0 A : Option Addr) (l : List Int) (str : ByteArray) (ok : Nat → Prop) (hs : a.eval s = .slice A m c) (hx : a.eval x = .string str) (hA : ∀ g, A0 = some ⟨g, 0, none⟩ → 0 < m → A = some ⟨g, off, none⟩) (hm : off + m = n)
    (HO : Kd.R (Kd.int .u8) e W base ok (.slice A0 n cap) l) :
    ∃ w1, (execOp a.eval o).run P W = .ok (.value (goInt ((min str.size m : Nat) : Int))) w1 ∧ Kd.R (Kd.int .u8) e w1 base ok (.slice A0 n cap) (copyL l off str) ∧ W.grownBy w1 (Value.slice A0 n cap).ownBlock := by
  obtain rfl := (Kd.R_reads' HO).1
  have hown := Kd.own_of_R HO
  cases hq : P.info? e with
  | none => simp [hq] at hinfo
  | some i =>
    have hi : i.size = 1 := by simpa [hq] using hinfo
    have fin : ∀ w1, (Builtin.copy_ #[t, t'] o.type #[.slice A m c, .string str]).run P W = .ok (goInt ((min str.size m : Nat) : Int)) w1 → (execOp a.eval o).run P W = .ok (.value (goInt ((min str.size m : Nat) : Int))) w1 := by
      intro w1 hr
      unfold execOp
      simp only [ho, resolve, invoke, builtin, Sem.run_bind, Sem.run_pure, Result.andThen_ok, List.map_toArray, List.map_cons, List.map_nil, hs, hx, hr]
    have hnl := sbytes_length str
    rcases Nat.eq_zero_or_pos (min str.size m) with h0 | hp
    · have e0 : (sbytes str).take 0 = [] := rfl
      have hfc := firstCells_str (P := P) W str 0
      have hcl : copyL l off str = l := by
        unfold copyL
        have : l.length - off = m := by omega
        rw [this, h0]
        have e1 : (sbytes str).take m = [] := List.eq_nil_of_length_eq_zero (by rw [List.length_take]; omega)
        rw [e1, List.nil_append, Nat.add_zero, List.take_append_drop]
      refine ⟨W, fin W ?_, by rw [hcl]; exact HO, World.grownBy.refl W _⟩
      cases A <;> simp [Builtin.copy_, run_underlying ht, Builtin.lenOf, sizeOf, typeInfo, hq, hi, h0, hfc, e0, storeCells]
    · rcases hown.2 with ⟨_, hx0⟩ | ⟨g', cap', cur, hv, hb, hh, hnc, hcm, hcs, htake⟩
      · omega
      injection hv with v1 v2 v3
      have hAe := hA g' v1 (by omega)
      subst hAe v1 v3
      have hcs1 : cur.size = cap := by omega
      have hll : l.length ≤ cap := by simpa using hnc
      obtain ⟨cs, hcsd⟩ : ∃ cs : List Value, cs = ((sbytes str).take (min str.size m)).map (Value.int .u8) := ⟨_, rfl⟩
      have hkl : cs.length = min str.size m := by rw [hcsd, List.length_map, List.length_take]; omega
      have hfc := firstCells_str (P := P) W str (min str.size m)
      rw [← hcsd] at hfc
      have hst := run_storeCells_cells (P := P) g' off cs 0 W (fun j hj => by rw [cell_of_row W g' _ cur e (0, 0) hh]; simp; omega) (fun j _ => blk_frozen hh _)
        (by intro u hu; rw [hcsd, List.mem_map] at hu; obtain ⟨q, _, rfl⟩ := hu; rfl)
      obtain ⟨cur', h3, h4, h5⟩ := setCells_row cs off W cur hh (by rw [hkl]; omega)
      obtain ⟨s1, s2, s3, s4⟩ := setCells_same g' cs off W
      have hcl := copyL_length l off str (by omega)
      refine ⟨W.setCells g' off cs, fin (W.setCells g' off cs) ?_, Kd.R_of_own ?_ HO.1, s1, s2, s3, by rw [s4]; exact Nat.le_refl _, fun k _ hk => setCells_far _ _ k (fun he => hk (by rw [he]; rfl))⟩
      · rw [Nat.add_zero] at hst
        simp [Builtin.copy_, run_underlying ht, Builtin.lenOf, sizeOf, typeInfo, hq, hi, hfc, hst]
      · rw [hcl]
        refine ⟨by rw [encs_length, hcl, Nat.mul_one], .inr ⟨g', cap, cur', rfl, hb, h3, hnc, hcm, by rw [h4, hcs], ?_⟩⟩
        rw [h5, Nat.mul_one, List.append_assoc, hkl]
        have htk : cur.toList.take l.length = encs (Value.int .u8) l := by rw [← htake, Nat.mul_one]
        have e2 : cur.toList = encs (Value.int .u8) l ++ cur.toList.drop l.length := by rw [← htk, List.take_append_drop]
        have ml : l.length - off = m := by omega
        have nt : (sbytes str).take m = (sbytes str).take (min str.size m) := by
          rcases Nat.le_total str.size m with hh | hh
          · rw [Nat.min_eq_left hh, List.take_of_length_le (by omega), List.take_of_length_le (by omega)]
          · rw [Nat.min_eq_right hh]
        have el : (encs (Value.int .u8) l).length = l.length := encs_length _
        have key : cur.toList.take off ++ (cs ++ cur.toList.drop (off + min str.size m)) = encs (Value.int .u8) (copyL l off str) ++ cur.toList.drop l.length := by
          have f1 : cur.toList.take off = encs (Value.int .u8) (l.take off) := by
            rw [e2, List.take_append_of_le_length (by omega)]
            simp [encs, List.map_take]
          have f2 : cur.toList.drop (off + min str.size m) = encs (Value.int .u8) (l.drop (off + min str.size m)) ++ cur.toList.drop l.length := by
            conv => lhs; rw [e2]
            rw [List.drop_append_of_le_length (by omega)]
            simp [encs, List.map_drop]
          rw [f1, f2, hcsd]
          unfold copyL
          rw [ml, nt]
          simp [encs, List.append_assoc]
        rw [key, List.take_append_of_le_length (by rw [encs_length, hcl]; exact Nat.le_refl _), List.take_of_length_le (by rw [encs_length, hcl]; exact Nat.le_refl _)]
/-- The same as an event of a walk. -/
theorem copy_event {P : Program} {ops : Array Oper} {rest : List Oper} {o : Oper} {a : Act} {Q : Exit → Act → World → Prop} {W : World} {base : Nat} (N : Option Tmp) (hd : o.dst = N) (hgd : o.guard = none) (s x : Operand) (t t' e : TypeId)
    (ho : o.op = .call { callee := .builtin .copy, args := #[s, x], argTypes := #[t, t'] }) (ht : P.underlying t = some (.slice e)) (hinfo : (P.info? e).map (·.size) = some 1)
    (cap off n m c : Nat) (A0 A : Option Addr) (l : List Int) (str : ByteArray) (ok : Nat → Prop) (hs : a.eval s = .slice A m c) (hx : a.eval x = .string str) (hA : ∀ g, A0 = some ⟨g, 0, none⟩ → 0 < m → A = some ⟨g, off, none⟩) (hm : off + m = n)
    (HO : Kd.R (Kd.int .u8) e W base ok (.slice A0 n cap) l)
    (h : ∀ w1, Kd.R (Kd.int .u8) e w1 base ok (.slice A0 n cap) (copyL l off str) → W.grownBy w1 (Value.slice A0 n cap).ownBlock → wpList P ops Q rest (a.put N (goInt ((min str.size m : Nat) : Int))) w1) :
    wpList P ops Q (o :: rest) a W := by
  subst hd
  obtain ⟨w1, hr, h1, h2⟩ := copy_run s x t t' e ho ht hinfo cap off n m c A0 A l str ok hs hx hA hm HO
  refine wpList_plain hgd fun K hK => ?_
  unfold Oper.wp
  rw [hr]
  exact hK _ _ (h w1 h1 h2)
/-- The same as a step of a region that draws. -/
theorem copy_step {P : Program} {ops : Array Oper} {o : Oper} {a : Act} {Q : Exit → Act → World → Prop} {Kc : Act → World → Prop} {W : World} {base : Nat} (N : Option Tmp) (hw : Region.wanted o (yielded ops a.tmps) = true) (hd : o.dst = N) (s x : Operand) (t t' e : TypeId)
    (ho : o.op = .call { callee := .builtin .copy, args := #[s, x], argTypes := #[t, t'] }) (ht : P.underlying t = some (.slice e)) (hinfo : (P.info? e).map (·.size) = some 1)
    (cap off n m c : Nat) (A0 A : Option Addr) (l : List Int) (str : ByteArray) (ok : Nat → Prop) (hs : a.eval s = .slice A m c) (hx : a.eval x = .string str) (hA : ∀ g, A0 = some ⟨g, 0, none⟩ → 0 < m → A = some ⟨g, off, none⟩) (hm : off + m = n)
    (HO : Kd.R (Kd.int .u8) e W base ok (.slice A0 n cap) l)
    (h : ∀ w1, Kd.R (Kd.int .u8) e w1 base ok (.slice A0 n cap) (copyL l off str) → W.grownBy w1 (Value.slice A0 n cap).ownBlock → Kc (a.put N (goInt ((min str.size m : Nat) : Int))) w1) :
    if Region.wanted o (yielded ops a.tmps) = true then Oper.wp P o a W Kc Q else Kc (a.put N undef) W := by
  subst hd
  obtain ⟨w1, hr, h1, h2⟩ := copy_run s x t t' e ho ht hinfo cap off n m c A0 A l str ok hs hx hA hm HO
  exact event_step hw hr (h w1 h1 h2)
theorem cutA {g co off n m : Nat} {A : Option Addr} (h : A = if co = off then some ⟨g, 0, none⟩ else ((some ⟨g, 0, none⟩ : Option Addr)).map (·.add (off * 1))) (hn : n ≤ co) (hm : m = n - off) (h0 : 0 < m) : A = some ⟨g, off, none⟩ := by
  rw [h, if_neg (by omega), Nat.mul_one]
  simp [Addr.add]
  intro h
  exact h.symm
/-- copy(l[off:], s), as the printed functions name it. -/
def copyF (l : List Int) (off : Nat) (s : ByteArray) : Option (List Int) := some (copyL l off s)
/-- The magic and the version. -/
def magicS : ByteArray := { data := #[117, 115, 116, 97, 114, 0, 48, 48] }
/-- Behind it what lay below lies below. -/
theorem below_copy {base : Nat} {w0 W w1 : World} {n cap : Nat} {A0 : Option Addr} {l : List Int} {ok : Nat → Prop} (HB : Below base w0 W) (hb : base ≤ W.heap.size) (HO : Kd.R (Kd.int .u8) 5 W base ok (.slice A0 n cap) l) (hg : W.grownBy w1 (Value.slice A0 n cap).ownBlock) : Below base w0 w1 := by
  obtain rfl := (Kd.R_reads' HO).1
  exact HB.grown hg hb (own_base (Kd.own_of_R HO))
/-- Where the row lies behind append(v, s...). -/
theorem append_str_where {P : Program} {w : World} (base : Nat) (t u ty e : TypeId) (i : TypeInfo) (ht : P.underlying t = some (.slice e)) (hu : P.underlying u = some .string) (hi : P.info? e = some i) (hz : i.zero = some (.int .u8 0))
    (hsize : i.size = 1) (hby : i.bytes = 1) (v : Value) (n : Nat) (xs : List Value) (hown : w.ownsRow base e 1 v n xs) (s : ByteArray) (h63 : n + s.size ≤ maxLen) (hbytes : n + s.size ≤ 140737488355328)
    (v' : Value) (w' : World) (hr : (Builtin.append_ #[t, u] ty #[v, .string s]).run P w = .ok v' w') : v'.ownBlock = v.ownBlock ∨ ∃ b, v'.ownBlock = some b ∧ w.heap.size ≤ b := by
  have hsmall : n + s.size ≤ 9223372036854775807 := by simp only [maxLen] at h63; omega
  have hxl : xs.length = n := by simpa using hown.1
  rcases hown.2 with ⟨hv, hn0⟩ | ⟨g, cap, cur, rfl, hbg, hg, hnc, hcm, hcs, htake⟩
  · have hx : xs = [] := List.eq_nil_of_length_eq_zero (by omega)
    obtain ⟨v2, w2, h1, h2, _, _⟩ := Lib.run_append_own_string (P := P) (w := w) w.heap.size t u ty e i ht hu hi hz hsize hby v n xs (by rw [hv, hx, hn0]; exact World.ownsRow_nil w w.heap.size e 1) s h63 hbytes (Nat.le_refl _)
    rw [hr] at h1
    injection h1 with h1 _
    subst h1
    cases hk : v'.ownBlock with
    | none => rw [hv]; exact .inl rfl
    | some k => exact .inr ⟨k, rfl, own_base h2 k hk⟩
  · by_cases hroom : n + s.size ≤ cap
    · have h1 := Lib.run_append_room_string (P := P) (w := w) t u ty e i ht hu hi hsize g n cap cur hg s hroom (by have : cur.size = cap := (by simpa using hcs); omega)
      rw [hr] at h1
      injection h1 with h1 _
      rw [h1]; exact .inl rfl
    · have holds : ∀ j u, xs[j]? = some u → w.cell? ((⟨g, 0, none⟩ : Addr).add j) = some u := hown.cells (g := g) rfl
      have h1 := Lib.run_append_grow_string (P := P) (w := w) t u ty e i (.int .u8 0) ht hu hi hz ⟨g, 0, none⟩ n cap xs (by rw [hsize]; simpa using hxl) holds s (by omega) (by omega) (by rw [hby]; exact growslice_fits (by omega) (by omega))
      rw [hr] at h1
      injection h1 with h1 _
      rw [h1]; exact .inr ⟨w.heap.size, rfl, Nat.le_refl _⟩
/-- append(v, s...), and where the row lies. -/
theorem print_append_str2 {P : Program} {ops : Array Oper} {rest : List Oper} {o : Oper} {a : Act} {Q : Exit → Act → World → Prop} {W : World} {w0 : World} (base : Nat) (hgd : o.guard = none) (s x : Operand) (t u e : TypeId)
    (ho : o.op = .call { callee := .builtin .append, args := #[s, x], argTypes := #[t, u] })
    (ht : P.underlying t = some (.slice e)) (hu : P.underlying u = some .string) (hinfo : (P.info? e).map (fun i => (i.zero, i.size, i.bytes)) = some (some (.int .u8 0), 1, 1))
    (v : Value) (xs : List Int) (y : ByteArray) (hs : a.eval s = v) (hx : a.eval x = .string y)
    (HO : W.ownsRow base e 1 v xs.length (nums .u8 xs)) (HB : Below base w0 W) (hbase : base ≤ W.heap.size) (hl : xs.length + y.size ≤ 140737488355328)
    (h : ∀ v1 w1, w1.ownsRow base e 1 v1 (xs ++ bytesOf y).length (nums .u8 (xs ++ bytesOf y)) → Below base w0 w1 → W.grownBy w1 v.ownBlock → (v1.ownBlock = v.ownBlock ∨ ∃ b, v1.ownBlock = some b ∧ W.heap.size ≤ b) → wpList P ops Q rest (a.put o.dst v1) w1) :
    wpList P ops Q (o :: rest) a W := by
  obtain ⟨i0, hi, hzz⟩ := Option.map_eq_some_iff.1 hinfo
  simp only [Prod.mk.injEq] at hzz
  obtain ⟨hz0, hz1, hz2⟩ := hzz
  refine wpList_plain hgd fun K hK => ?_
  obtain ⟨v', w', hr, h2, h3, _⟩ := Lib.run_append_own_string (P := P) (w := W) base t u o.type e i0 ht hu hi hz0 hz1 hz2 v xs.length (nums .u8 xs) HO y (by simp only [maxLen]; omega) hl hbase
  have hat := append_str_where base t u o.type e i0 ht hu hi hz0 hz1 hz2 v xs.length (nums .u8 xs) HO y (by simp only [maxLen]; omega) hl v' w' hr
  have hl2 : (xs ++ bytesOf y).length = xs.length + y.size := by rw [List.length_append, bytesOf_length]
  have hc : nums .u8 (xs ++ bytesOf y) = nums .u8 xs ++ Lib.strCells y := by
    rw [nums_append]
    congr 1
    simp [nums, bytesOf, Lib.strCells]
  have hw := h v' w' (by rw [hl2, hc]; exact h2) (HB.grown h3 hbase (own_base HO)) h3 hat
  unfold Oper.wp execOp
  simp only [ho, resolve, invoke, builtin, Sem.run_bind, Sem.run_pure, Result.andThen_ok, List.map_toArray, List.map_cons, List.map_nil, hs, hx, hr]
  exact hK _ _ hw
end Go.Proofs.Ytkdklgcjimnabaa.CopyS
