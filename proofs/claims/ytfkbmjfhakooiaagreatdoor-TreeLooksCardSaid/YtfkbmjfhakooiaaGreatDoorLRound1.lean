/- TreeLooks: round 1 of its last loop, walked. Conditions: as the theorem says. -/
import Derived.Test.YtfkbmjfhakooiaaGreatDoorLaw6
namespace Go.Proofs.YtfkbmjfhakooiaaGreatDoor.TR
open Go.RowKit Go.Shelf Go.Proofs.YtfkbmjfhakooiaaGreatDoor.PTree Go.Proofs.YtfkbmjfhakooiaaGreatDoorW.PrintWords Go.Proofs.YtfkbmjfhakooiaaGreatDoorW.PrintLast Go.Proofs.YtfkbmjfhakooiaaGreatDoorW.PrintMore
attribute [local go_sem] Oper.semAt_some max2_int min2_int max_two min_two
set_option linter.unusedVariables false
set_option linter.unusedSimpArgs false
set_option maxHeartbeats 16000000 in
set_option maxRecDepth 100000 in
theorem round1 (K : Nat) (hK : 10000 ≤ K) (l : List S28) (hn : l.length ≤ 400) (hd : ∀ x ∈ l, x.f7.length ≤ 1000000) (bw b15 c14 cL baseS : Nat) (AL A14 : Option Addr) (okS : Nat → Prop) (wl W : World) (hGl : Gl wl)
    (hXL : Boxed wl bw 22 (.slice AL l.length cL)) (hSL : Kd.S k28 28 wl baseS okS (.slice AL l.length cL) l) (hV1 : Kd.V k28 28 wl 0 (fun k => k < wl.heap.size) (.slice A14 l.length c14) l)
    (hB : Below wl.heap.size wl W) (hX15 : Boxed W b15 3 (.int .i64 1)) (hS15 : wl.heap.size ≤ b15) {ds : List Deferred} {t0 t1 t2 t3 t4 t5 t6 t7 t8 t9 t10 t11 t13 t16 t17 t18 t19 t20 t21 t22 t23 t24 t25 t26 t27 t28 t29 t30 t31 t32 t33 t34 t35 t36 t37 t38 t39 t40 t41 t42 t43 t44 t45 t46 t47 t48 t49 t50 t51 t52 t53 t54 t55 t56 t57 t58 t59 t60 t61 t62 t63 t64 t65 t66 t67 t68 t69 t70 t71 t72 t73 t74 t75 t76 t77 t78 t79 t80 t81 t82 t83 t84 t85 t86 t87 t88 t89 t90 t91 t92 t93 t94 t95 t96 t97 t98 t99 t100 t101 t102 t103 t104 t105 t106 t107 t108 t109 t110 t111 t112 t113 t114 t115 t116 t117 t118 t119 t120 t121 t122 t123 t124 t125 t126 t127 t128 t129 t130 t131 t132 t133 t134 t135 t136 t137 t138 t139 t140 t141 t142 t143 t144 t145 t146 t147 t148 t149 t150 t151 : Value} {K1 : Act → World → Prop} {Q1 : Exit → Act → World → Prop}
    (hrest : ∀ a1 w1, (∃ (D b1 : Nat) (v16 v17 v18 v99 v100 v101 v102 v103 v104 v105 v106 v107 v108 v109 v110 v111 v112 v113 v114 v115 v116 v117 v118 v119 v120 v121 v122 v123 v124 v125 v126 v127 v128 v129 v130 v131 v132 v133 v134 v135 v136 v137 v138 v139 v140 v141 v142 v143 v144 v145 v146 v147 v148 v149 v150 v151 : Value), a1 = ⟨#[t0, t1, t2, t3, t4, t5, t6, t7, t8, t9, t10, t11, .func (.func 35) #[] #[.pointer (some ⟨bw, 0, none⟩)], t13, .slice A14 l.length c14, .pointer (some ⟨b1, 0, none⟩), v16, v17, v18, t19, t20, t21, t22, t23, t24, t25, t26, t27, t28, t29, t30, t31, t32, t33, t34, t35, t36, t37, t38, t39, t40, t41, t42, t43, t44, t45, t46, t47, t48, t49, t50, t51, t52, t53, t54, t55, t56, t57, t58, t59, t60, t61, t62, t63, t64, t65, t66, t67, t68, t69, t70, t71, t72, t73, t74, t75, t76, t77, t78, t79, t80, t81, t82, t83, t84, t85, t86, t87, t88, t89, t90, t91, t92, t93, t94, t95, t96, t97, t98, v99, v100, v101, v102, v103, v104, v105, v106, v107, v108, v109, v110, v111, v112, v113, v114, v115, v116, v117, v118, v119, v120, v121, v122, v123, v124, v125, v126, v127, v128, v129, v130, v131, v132, v133, v134, v135, v136, v137, v138, v139, v140, v141, v142, v143, v144, v145, v146, v147, v148, v149, v150, v151], { target := .collected D, args := #[] } :: ds⟩ ∧ w1.heap[D]? = some (.deferred (some [])) ∧ b15 ≤ D ∧ D < b1 ∧ Below b15 W w1 ∧ Boxed w1 b1 3 (.int .i64 2)) → K1 a1 w1) :
    (bodyR.getD .skip).wp Tryz.prog (Exit.then K1 Q1) ⟨#[t0, t1, t2, t3, t4, t5, t6, t7, t8, t9, t10, t11, .func (.func 35) #[] #[.pointer (some ⟨bw, 0, none⟩)], t13, .slice A14 l.length c14, .pointer (some ⟨b15, 0, none⟩), t16, t17, t18, t19, t20, t21, t22, t23, t24, t25, t26, t27, t28, t29, t30, t31, t32, t33, t34, t35, t36, t37, t38, t39, t40, t41, t42, t43, t44, t45, t46, t47, t48, t49, t50, t51, t52, t53, t54, t55, t56, t57, t58, t59, t60, t61, t62, t63, t64, t65, t66, t67, t68, t69, t70, t71, t72, t73, t74, t75, t76, t77, t78, t79, t80, t81, t82, t83, t84, t85, t86, t87, t88, t89, t90, t91, t92, t93, t94, t95, t96, t97, t98, t99, t100, t101, t102, t103, t104, t105, t106, t107, t108, t109, t110, t111, t112, t113, t114, t115, t116, t117, t118, t119, t120, t121, t122, t123, t124, t125, t126, t127, t128, t129, t130, t131, t132, t133, t134, t135, t136, t137, t138, t139, t140, t141, t142, t143, t144, t145, t146, t147, t148, t149, t150, t151], ds⟩ W := by
  have hu31 := Tryz.underlying28
  have hu22 := Tryz.underlying22
  have hu9 := Tryz.underlying9
  have hu4 := Tryz.underlying4
  have hu3 := Tryz.underlying3
  have HK := Aside0.mk hK
  have HN := Aside0.mk hn
  have HD := Aside0.mk hd
  have HGL := Aside0.mk hGl
  have HXL := Aside0.mk hXL
  have HSL := Aside0.mk hSL
  have HV1 := Aside0.mk hV1
  have HB := Aside0.mk hB
  have HX15 := Aside0.mk hX15
  have S15 := Aside0.mk hS15
  have c15 := HX15.out.cell
  clear hK hn hd hGl hXL hSL hV1 hB hX15 hS15
  refine wp_cut (fun a1 w1 => ∃ (D b1 : Nat) (v16 v17 v18 v99 v100 v101 v102 v103 v104 v105 v106 v107 v108 v109 v110 v111 v112 v113 v114 v115 v116 v117 v118 v119 v120 v121 v122 v123 v124 v125 v126 v127 v128 v129 v130 v131 v132 v133 v134 v135 v136 v137 v138 v139 v140 v141 v142 v143 v144 v145 v146 v147 v148 v149 v150 v151 : Value), a1 = ⟨#[t0, t1, t2, t3, t4, t5, t6, t7, t8, t9, t10, t11, .func (.func 35) #[] #[.pointer (some ⟨bw, 0, none⟩)], t13, .slice A14 l.length c14, .pointer (some ⟨b1, 0, none⟩), v16, v17, v18, t19, t20, t21, t22, t23, t24, t25, t26, t27, t28, t29, t30, t31, t32, t33, t34, t35, t36, t37, t38, t39, t40, t41, t42, t43, t44, t45, t46, t47, t48, t49, t50, t51, t52, t53, t54, t55, t56, t57, t58, t59, t60, t61, t62, t63, t64, t65, t66, t67, t68, t69, t70, t71, t72, t73, t74, t75, t76, t77, t78, t79, t80, t81, t82, t83, t84, t85, t86, t87, t88, t89, t90, t91, t92, t93, t94, t95, t96, t97, t98, v99, v100, v101, v102, v103, v104, v105, v106, v107, v108, v109, v110, v111, v112, v113, v114, v115, v116, v117, v118, v119, v120, v121, v122, v123, v124, v125, v126, v127, v128, v129, v130, v131, v132, v133, v134, v135, v136, v137, v138, v139, v140, v141, v142, v143, v144, v145, v146, v147, v148, v149, v150, v151], { target := .collected D, args := #[] } :: ds⟩ ∧ w1.heap[D]? = some (.deferred (some [])) ∧ b15 ≤ D ∧ D < b1 ∧ Below b15 W w1 ∧ Boxed w1 b1 3 (.int .i64 2)) hrest (fun J1 K2 hJ1 hM1 => ?_)
  have HJ1 := Aside0.mk hJ1
  clear hrest hJ1
  refine wp_opt (c := _) (o := bodyR) rfl ?_
  go_upto_region 30 with (first | ((with_reducible refine gate_dst (N := 16) rfl ?_); refine box_event ?hg (N := 16) ?hd (cs := #[.slice none 0 0]) (t := 22) ?hr ?_; (case hd => rfl); (case hg => rfl); (case hr => first | (go_simp; done) | (go_simp; rfl)); intro b16 hg wc hbox hb; have HB16 := Aside0.mk hb; have X16 := Aside0.mk (show Boxed wc b16 22 (.slice none 0 0) from hbox); have S16 := Aside0.mk (show b16 = W.heap.size + 1 by rw [hg, World.size_alloc]); have c16 := X16.out.cell; have f16 := X16.out.frozen; clear hb hbox hg))
  have HG0 := Aside0.mk (GotI.first (n := 1) HX15.out (Nat.le_refl b15) S16.out X16.out HB16.out)
  clear c15 c16 f16 HB16 X16
  generalize wc.setCell ⟨b16, 0, none⟩ (.slice (some ⟨W.heap.size, 0, none⟩) 0 0) = wd at HG0 ⊢
  go_wp2
  obtain ⟨iE, hiE, hzE, hsE, hbE⟩ := info_parts info28
  have HW0 := Aside0.mk (show Below wl.heap.size wl wd from HB.out.trans (HG0.out.below.mono S15.out))
  have HLW := Aside0.mk (show b15 ≤ wd.heap.size from Nat.le_of_lt HG0.out.c15.lt)
  refine (wpIn_wide (n := 6)).1 ?_
  refine wpIn_seqX_one (n := 6) rfl (by omega) (gf := 35) (lb := #[.pointer (some ⟨bw, 0, none⟩)]) rfl trivial (enters_of Tryz.func35 (by kernel_rfl) rfl)
    (walk1_seq (6 - 1) (by omega) l AL cL bw _ _ (fun k => k < wl.heap.size) wd ((HW0.out.block bw HXL.out.lt).trans HXL.out) (Kd.S_mono (Kd.S_step (Kd.S_bound HSL.out) (fun k hk hlt => HW0.out.block k hlt)) (fun k hk => hk.2.2.1))
      (by have := HN.out; omega) (fun x hx => by have := HD.out x hx; omega)
      HXL.out.lt (fun k hk => hk)
      (fun W1 hW => Gl.kept HGL.out (fun k hk => (hW k hk (Nat.lt_of_lt_of_le hk HW0.out.size)).trans (HW0.out.block k hk))))
    (fun h1 h2 k hk hlt => (h2 k hk hlt).trans (h1 k hk hlt)) (fun W1 l1 o' hl k hk hlt => World.putObj_heap_other (by omega)) (fun _ => rfl)
    (fun pre x W0 W1 l1 o o' _ _ hl ho h => xpx_put hl ho h) (fun pre x W0 W1 W2 h _ hb => xpx_below h hb)
    (fun pre W1 => GotI b15 b15 b16 1 W pre W1) (fun c pre W1 => False)
    (fun pre W1 W2 row h hg hr => GotI.own _ _ _ _ _ _ HLW.out pre W1 W2 row h hg hr) (fun c pre W1 W2 row h hg hr => h.elim) HG0.out ?round
    6 (fun D W1 => W1.heap[D]? = some (.deferred (some [])) ∧ wd.heap.size ≤ D ∧ ∃ pre, pre.map (·.1) = l ∧ GotI b15 b15 b16 1 W pre W1) ?done ?stop (fun a1 w1 h => by simp only [Exit.inBlock, if_true]; exact h) ?rest
  case round =>
    intro lp pre x W0 W hI hB hsz hlen hX
    have HB := Aside0.mk hB
    have HSZ := Aside0.mk hsz
    have HLE := Aside0.mk (show pre.length < 400 by have := HN.out; omega)
    clear hI hX hB hsz
    rw [show encX x = #[.agg #[.string x.1.f0, .int .i64 x.1.f1, .int .i64 x.1.f2, .int .i64 x.1.f3, .int .i64 x.1.f4, .int .i64 x.1.f5, .string x.1.f6, .slice x.2.1 x.1.f7.length x.2.2]] from rfl, zip_one]
    simp only [List.setIfInBounds_toArray, List.set_cons_zero, List.set_cons_succ]
    gi_wp2_with (first | ((with_reducible refine gatei_dst (N := 17) rfl ?_); refine box_eventI ?hg (N := 17) ?hd (T := 28) rfl (cs := #[.string (⟨#[]⟩ : ByteArray), .int .i64 0, .int .i64 0, .int .i64 0, .int .i64 0, .int .i64 0, .string (⟨#[]⟩ : ByteArray), .slice none 0 0]) (t := 28) ?hr ?_; (case hd => rfl); (case hg => rfl); (case hr => first | (go_simp; done) | (go_simp; rfl)); intro g17 hg w15 hbox hb; have HR15 := Aside0.mk (show Below W.heap.size W w15 from hb); have K16 := Aside0.mk hbox; have G16 := Aside0.mk (show W.heap.size ≤ g17 by rw [hg]; exact Nat.le_refl _); clear hb hbox hg) | ((with_reducible refine gatei_store (t := 28) (p := 17) (v := .tmp 105) rfl ?_); refine ev_set31I _ rfl (.tmp 17) (.tmp 105) rfl rfl g17 _ _ _ _ _ _ _ _ x.1.f0 x.1.f6 x.1.f1 x.1.f2 x.1.f3 x.1.f4 x.1.f5 x.2.1 x.1.f7.length x.2.2 rfl rfl K16.out (fun w16 b1 b2 => ?_); have HR16 := Aside0.mk (below_row_ HR15.out b2 G16.out); have K17 := Aside0.mk b1; clear b1 b2))
    refine ⟨HR16.out, fun Wd Wc hId hBd hszd hXd hcl => ?_⟩
    obtain ⟨A, c, gB, gO⟩ := hId.got
    have HGB := Aside0.mk (boxed_below gB hBd)
    have HGO := Aside0.mk (own_move gO (fun k hk => hBd.block k (by obtain ⟨cs, hc⟩ := own_typed gO k hk; exact (Array.getElem?_eq_some_iff.1 hc).1)))
    have HXR := Aside0.mk hXd.2
    have HID := Aside0.mk hId
    have HBD := Aside0.mk hBd
    have HLO := Aside0.mk (show b15 ≤ Wd.heap.size from Nat.le_trans HLW.out hszd)
    have c16 := HGB.out.cell
    have c15 := (boxed_below hId.c15 hBd).cell
    have K17c := Aside0.mk (hcl _ _ _ _ K17.out)
    have y0 : Wc.cell? ⟨g17, 0, none⟩ = some (.string x.1.f0) := blk_cell K17c.out 0
    have y1 : Wc.cell? ⟨g17, 1, none⟩ = some (.int .i64 x.1.f1) := blk_cell K17c.out 1
    have y2 : Wc.cell? ⟨g17, 2, none⟩ = some (.int .i64 x.1.f2) := blk_cell K17c.out 2
    have y3 : Wc.cell? ⟨g17, 3, none⟩ = some (.int .i64 x.1.f3) := blk_cell K17c.out 3
    have y4 : Wc.cell? ⟨g17, 4, none⟩ = some (.int .i64 x.1.f4) := blk_cell K17c.out 4
    have y5 : Wc.cell? ⟨g17, 5, none⟩ = some (.int .i64 x.1.f5) := blk_cell K17c.out 5
    have y6 : Wc.cell? ⟨g17, 6, none⟩ = some (.string x.1.f6) := blk_cell K17c.out 6
    have y7 : Wc.cell? ⟨g17, 7, none⟩ = some (.slice x.2.1 x.1.f7.length x.2.2) := blk_cell K17c.out 7
    clear gB gO hXd hId hBd hszd hcl
    gi_wp2_with (first | (gi_at_builtin; refine wpListIn_append_own _ rfl _ _ 22 rfl b15 28 iE (.agg #[.string (⟨#[]⟩ : ByteArray), .int .i64 0, .int .i64 0, .int .i64 0, .int .i64 0, .int .i64 0, .string (⟨#[]⟩ : ByteArray), .slice none 0 0]) 8 96 Tryz.underlying22 hiE hzE hsE hbE rfl (by decide) _ _ _ rfl (HGO.out.alloc _) ⟨Wc.heap.size, 0, none⟩ 1 1 (cellsX x) rfl rfl (fun j u h => cells_new Wc _ _ j u h) (by simp [cellsX, Value.oneCell']) (by have := HLE.out; unfold maxLen; omega) (by have := HLE.out; omega) (by have h1 := HLO.out; have h2 := HBD.out.size; rw [World.size_alloc]; omega) ?_; intro v' w1 hown' hgrow _; obtain ⟨g', cap', rfl⟩ := ownsRow_succ hown'; have HMO := Aside0.mk (GotI.more HID.out HBD.out HXR.out HGB.out HGO.out hown' hgrow); have HAP := Aside0.mk (Boxed.appended HGB.out (by decide) HGO.out (by have h1 := HLO.out; have h2 := HBD.out.size; omega) (by have h1 := HID.out.lo15; have h2 := HID.out.lo16; omega) hown' hgrow); have hc1 := HAP.out.1.cell; have hf1 := HAP.out.1.frozen; have z15 := HMO.out.1.c15.cell; have z16 := HAP.out.2.1.cell))
    exact ⟨HMO.out.2.1.from _, fun k hk hlt => (HMO.out.2.2.block k (Nat.lt_of_lt_of_le hk S15.out)).trans (HBD.out.block k (Nat.lt_of_lt_of_le (Nat.lt_of_lt_of_le hk S15.out) HLO.out)), HMO.out.1⟩
  case done =>
    intro D xs W1 hD hS hI hDW
    exact ⟨hDW, hD, xs, hS, hI⟩
  case stop =>
    intro D c pre W1 hD hS hI hDW
    exact hI.elim
  case rest =>
    rintro D W1 ⟨hDW, hD, pre, hpre, hI⟩
    have HDW := Aside0.mk hDW
    have HDD := Aside0.mk hD
    have HPR := Aside0.mk hpre
    have HGT := Aside0.mk hI
    clear hDW hD hpre hI
    gi_wp2
    obtain ⟨Ag, cg, gB, gO⟩ := HGT.out.got
    have HLT := Aside0.mk (show pre.length = (l).length by rw [← HPR.out, List.length_map])
    have HPL := Aside0.mk (show pre.length ≤ 400 by have h1 := HLT.out; have h2 := HN.out; omega)
    have HGR := Aside0.mk (HGT.out.reads (by have := HPL.out; omega) gO)
    have HBW := Aside0.mk (show Below wl.heap.size wl W1 from HB.out.trans (HGT.out.below.mono S15.out))
    have HV2 := Aside0.mk (Kd.V_step HV1.out (fun k hk _ => HBW.out.block k hk))
    have c15 := HGT.out.c15.cell
    have c16 := gB.cell
    have HGB := Aside0.mk gB
    have HGO := Aside0.mk gO
    clear gB gO
    go_upto_region 34 with (fail)
    go_cut [138] from 117 (fun s wc => s = .bool false ∧ Below W1.heap.size W1 wc)
    case first =>
      have HSC := Aside0.mk (fun (W2 : World) (hb : Below W1.heap.size W1 W2) => same_goes K HK.out l.length (Nat.le_refl _) HN.out (HGL.out.of HBW.out) HGR.out (Kd.V_reads' HV2.out).2.2 (Kd.V_reads' HV2.out).2.1 (by rw [List.take_length]; exact HPR.out) hb)
      refine wp_onN ?_
      first | go_region_with (go_at_call 18; refine (HSC.out _ (below_drew1 (Below.refl _ _))).mono ?_; rintro e w22 ⟨rfl, hb22⟩; have c15w := (boxed_below HGT.out.c15 (below_step (below_drew1 (Below.refl _ _)) hb22)).cell) | fail
      all_goals (simp only [OnN]; go_wp2; go_meet; case rel => exact ⟨rfl, below_step (below_drew1 (Below.refl _ _)) hb22⟩)
    case rest =>
      obtain ⟨rfl, hbc⟩ := hcut
      have HBC := Aside0.mk hbc
      have X15 := Aside0.mk (boxed_below HGT.out.c15 HBC.out)
      have X16 := Aside0.mk (boxed_below HGB.out HBC.out)
      have HRW := Aside0.mk (fun x (hx : x ∈ pre) => show RowX wc b15 x from Kd.R_below (HGT.out.each x hx) HBC.out)
      have HGO2 := Aside0.mk (own_move HGO.out (fun k hk => HBC.out.block k (by obtain ⟨cs, hc⟩ := own_typed HGO.out k hk; exact (Array.getElem?_eq_some_iff.1 hc).1)))
      have HDW2 := Aside0.mk ((HBC.out.block D (Array.getElem?_eq_some_iff.1 HDW.out).1).trans HDW.out)
      have HSZX := Aside0.mk (fun x (hx : x ∈ pre) => show x.1.f7.length ≤ 140737488355328 by have h1 : x.1 ∈ l := (by rw [← HPR.out]; exact List.mem_map_of_mem hx); have := HD.out x.1 h1; omega)
      have HCPX := Aside0.mk (fun x (hx : x ∈ pre) => show x.1.f7.length ≤ x.2.2 from (Kd.R_reads' (HRW.out x hx)).2.1)
      have HUX := Aside0.mk (fun (g m : Nat) (h : U8s wc g m) => h)
      have HEX := Aside0.mk (Ex.refl (ByteRows wc b15) wc)
      have c15 := X15.out.cell
      have c16 := X16.out.cell
      clear hbc HV2 HGR
      go_wp2
      go_loopg [18, 141] (pre.length + 1) (fun kq v18 v141 w' => ∃ (q : Int), v141 = .int .i64 q ∧ Aside0 (0 ≤ q ∧ q ≤ (pre.length : Int) ∧ (kq : Int) = (pre.length : Int) + 1 - q) ∧ Aside0 (∀ g m, U8s wc g m → U8s w' g m) ∧ Aside0 (Ex (ByteRows wc b15) wc w'))
      case atStart => exact ⟨0, rfl, ⟨by omega, by omega, by omega⟩, HUX, HEX⟩
      case round =>
        clear HUX HEX c15 c16
        obtain ⟨q, rfl, HQI, HUX, HEX⟩ := hrel
        have Z15 := Aside0.mk (show Boxed wr b15 3 (.int .i64 1) from (HEX.out.block b15 X15.out.lt (notBytes X15.out (by decide))).trans X15.out)
        have Z16 := Aside0.mk (show Boxed wr b16 22 (.slice Ag pre.length cg) from (HEX.out.block b16 X16.out.lt (notBytes X16.out (by decide))).trans X16.out)
        have c15 := Z15.out.cell
        have c16 := Z16.out.cell
        cases gk with
        | zero => exact absurd HQI.out (fun h => by omega)
        | succ k2 =>
          by_cases cq : q < (pre.length : Int)
          · have CQ := Aside0.mk cq
            have hin : q.toNat < pre.length := by have := HQI.out.1; omega
            obtain ⟨gA, hAg, ⟨cs, hcs⟩, hdat⟩ := GotI.datas HGO2.out (by omega)
            have gc := (ex_cell HEX.out (notBytes hcs (by decide)) (hdat _ _ (List.getElem?_eq_getElem hin))).trans (hdat _ _ (List.getElem?_eq_getElem hin))
            subst hAg
            have hxm := List.getElem_mem hin
            have hap := add_plain gA (q.toNat * 8)
            have hq0 := HQI.out.1
            have p211 := eq_true hq0
            have q211 := eq_true cq
            clear hq0 hcs hdat
            go_wp2_with (first | (go_at_call 16; refine (over_row (HRW.out _ hxm) (HSZX.out _ hxm) (HCPX.out _ hxm) HEX.out HUX.out).mono ?_; rintro e wo ⟨⟨v, rfl⟩, hE, hU⟩; have HEN := Aside0.mk hE; have HUN := Aside0.mk hU; clear hE hU))
            go_roundg k2
            case measure => omega
            case rel => exact ⟨q + 1, by rw [wr_in _ (by have h1 := HQI.out; have h2 := HPL.out; have h3 := CQ.out; omega)], ⟨by have := HQI.out; have := CQ.out; omega⟩, HUN, HEN⟩
          · have HDW3 := Aside0.mk ((HEX.out.block D (Array.getElem?_eq_some_iff.1 HDW2.out).1 (notBytesD HDW2.out)).trans HDW2.out)
            have HBr := Aside0.mk (show Below b15 W wr from (HGT.out.below.trans (HBC.out.mono (Nat.le_of_lt HGT.out.c15.lt))).trans (HEX.out.below (Nat.le_of_lt X15.out.lt) (fun k hk => hk.1)))
            go_wp2_with (first | ((with_reducible refine gate_dst (N := 15) rfl ?_); refine box_event ?hg (N := 15) ?hd (cs := #[.int .i64 0]) (t := 3) ?hr ?_; (case hd => rfl); (case hg => rfl); (case hr => first | (go_simp; done) | (go_simp; rfl)); intro q15 hg we hbox hb; have HBe := Aside0.mk hb; have Y15 := Aside0.mk (show Boxed we q15 3 (.int .i64 0) from hbox); have Q15 := Aside0.mk (show q15 = wr.heap.size by rw [hg]); have d15 := Y15.out.cell; have g15 := Y15.out.frozen; clear hb hbox hg))
            have hDl := (Array.getElem?_eq_some_iff.1 HDW3.out).1
            have HEND := Aside0.mk (show Below wr.heap.size wr ((we.setCell ⟨q15, 0, none⟩ (.int .i64 1)).setCell ⟨q15, 0, none⟩ (.int .i64 2)) from (HBe.out.setCell (p := ⟨q15, 0, none⟩) (by rw [Q15.out]; exact Nat.le_refl _) _).setCell (p := ⟨q15, 0, none⟩) (by rw [Q15.out]; exact Nat.le_refl _) _)
            refine Met.intro (HJ1.out _ _ ⟨D, q15, _, _, _, _, _, _, _, _, _, _, _, _, _, _, _, _, _, _, _, _, _, _, _, _, _, _, _, _, _, _, _, _, _, _, _, _, _, _, _, _, _, _, _, _, _, _, _, _, _, _, _, _, _, _, _, _, rfl, (HEND.out.block D hDl).trans HDW3.out, Nat.le_trans HLW.out HDD.out, by rw [Q15.out]; exact hDl, HBr.out.trans (HEND.out.mono (Nat.le_of_lt Z15.out.lt)), Boxed.set _ (Boxed.set _ Y15.out)⟩)
end Go.Proofs.YtfkbmjfhakooiaaGreatDoor.TR
