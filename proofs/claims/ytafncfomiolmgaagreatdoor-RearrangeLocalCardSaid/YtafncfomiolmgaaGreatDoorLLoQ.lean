/- The law RearrangeLocal, walked, its awake given. The condition: the library's own variables hold what they must. -/
import Derived.Test.YtafncfomiolmgaaGreatDoorQ27
import Derived.Test.YtafncfomiolmgaaGreatDoorQ8
namespace Go.Proofs.YtafncfomiolmgaaGreatDoor
open Go.RowKit

set_option maxHeartbeats 16000000 in
set_option maxRecDepth 100000 in
theorem local_of (t : Tr) (o : Opn) (rv bv : Value) (w : World) (hE : Env w) (hr : SlI w rv t.roots) (hb : SlBr w bv t.brs) (hkw : (Lit.int .i64 o.kind).wf = true) (hA : ∀ W, Grew w W → Calls Tryz.prog 11 #[] W fun e w' => e = .returned (.bool true) ∧ Grew W w') : Calls Tryz.prog 8 #[.agg #[rv, bv], o.agg] w fun e w' => e = .returned (.bool true) ∧ Grew w w' := by
  have KA := Lib.hid hA
  have kW := fun W (hW : Grew w W) => fewLaw t o rv bv W (hr.mono hW) (hb.mono hW)
  have kC := fun W (hW : Grew w W) (hf : FewTM t.roots t.brs) => cpTr t rv bv W (hr.mono hW) (hb.mono hW) hf.br hf.rs
  have kC2 := fun (x : Tr) W rx bx (ht : TrOk W rx bx x) (hx : RightT x) => cpTr x rx bx W ht.1 ht.2 (right_few hx).1 (right_few hx).2
  have kP := fun W rx bx (hW : Grew w W) (ht : TrOk W rx bx t) (hf : FewTM t.roots t.brs) => rApply t o rx bx W (hE.mono hW) ht.1 ht.2 hf.br hf.rs hkw
  have kK := fun (x : Tr) id W rx bx (hW : Grew w W) (ht : TrOk W rx bx x) (hx : RightT x) => tKidsX x.roots x.brs id rx bx W (hE.mono hW) ht.1 ht.2 (right_few hx).1 (right_few hx).2
  have kCh := fun (x y : Tr) W ra ba rb bb (hW : Grew w W) (h1 : TrOk W ra ba x) (h2 : TrOk W rb bb y) (hx : RightT x) (hy : RightT y) => (rChanged x y ra ba rb bb W (hE.mono hW) h1.1 h1.2 h2.1 h2.2 (right_few hx).1 (right_few hy).1 (right_few hx).2 (right_few hy).2).mono fun _ _ h => chg_yes hx hy h
  have hY := fun h => applyR_right (t := t) (o := o) h
  have hP := fun h b hb hne => local_plain (t := t) (o := o) h (b := b) hb hne
  have hQ := fun h l hl => local_chg (t := t) (o := o) h (l := l) hl
  generalize applyR t o = R at kP hY hP hQ
  obtain ⟨U, n⟩ := R
  have KK := Lib.hid kK
  have KCH := Lib.hid kCh
  have HFK := Lib.hid (fun (h : FewTM t.roots t.brs) k (hk : k < t.brs.length) => h.br.2 k hk)
  clear kK kCh hE
  obtain ⟨Ar, cr, rfl, -⟩ := hr.open_
  obtain ⟨Ab, cb, rfl, -, -, hbr⟩ := hb.open_
  have HBR := Lib.hid hbr
  clear hbr
  have HB := Lib.hid (fun (r b : Value) W (g : Grew ((w.alloc (.cells [r, b].toArray 35)).alloc (.cells o.cells.toArray 25)) W) => law_cells o g)
  generalize hFO : FewO o = FO at kW
  obtain ⟨i, d, k, u, p, b, l, tt, m, x9, x10, x11⟩ := o
  unfold Opn.agg at kW kP ⊢
  unfold Opn.cells at HB
  dsimp only at kW kP HB ⊢
  dsimp only at hP hQ hY
  have HY := Lib.hid hY
  have HP := Lib.hid hP
  have HQC := Lib.hid hQ
  clear hP hQ hY
  have KW := Lib.hid kW
  have KP := Lib.hid kP
  have KC := Lib.hid kC
  have KC2 := Lib.hid kC2
  clear kW kP kC kC2 hr hb hA
  go_enter Tryz.func8, Tryz.ntmps8
  go_wp2_with fail
  refine (KA.out _ (((Grew.refl w).alloc _).alloc _)).mono ?_
  rintro e wa ⟨rfl, ga⟩
  have hh := HB.out _ _ wa ga
  have HG1 := Lib.hid ((((Grew.refl w).alloc _).alloc _).trans ga)
  have HS1 := Lib.hid hh
  clear ga HB
  obtain ⟨r0, b0, a0, a1, a2, a3, a4, a5, a6, a7, a8, a9, a10, a11⟩ := hh
  dsimp only
  go_wp2_with fail
  refine (KW.out _ HG1.out).mono ?_
  rintro e wb ⟨q, rfl, hq, gb⟩
  have HS0 := Lib.hid (law_grow HS1.out gb)
  have HG2 := Lib.hid (HG1.out.trans gb)
  have HQ := Lib.hid hq
  clear hq gb HG1 HS1 r0 b0 a0 a1 a2 a3 a4 a5 a6 a7 a8 a9 a10 a11
  dsimp only
  cases q
  · clear HQ
    go_wp2_with fail
    refine (KA.out _ HG2.out).mono ?_
    rintro e wz ⟨rfl, g3⟩
    have HG3 := Lib.hid (HG2.out.trans g3)
    clear g3
    dsimp only
    go_wp2
    go_ret
    exact ⟨rfl, HG3.out⟩
  have HF := Lib.hid (HQ.out rfl).1
  clear HQ
  go_wp2_with fail
  go_cut [5, 6] from 23 to 30 (fun s5 s6 wx => ApCut wb (U, (n : Int)) s5 s6 wx)
  case first =>
    as_aux_lemma =>
    go_region_held3 (fun W => W.cell? ⟨w.heap.size, 0, none⟩ = some (.slice Ar t.roots.length cr) ∧ W.cell? ⟨w.heap.size, 1, none⟩ = some (.slice Ab t.brs.length cb) ∧ W.cell? ⟨w.heap.size + 1, 0, none⟩ = some (.int .i64 i) ∧ W.cell? ⟨w.heap.size + 1, 1, none⟩ = some (.int .i64 d) ∧ W.cell? ⟨w.heap.size + 1, 2, none⟩ = some (.int .i64 k) ∧ W.cell? ⟨w.heap.size + 1, 3, none⟩ = some (.int .i64 u) ∧ W.cell? ⟨w.heap.size + 1, 4, none⟩ = some (.int .i64 p) ∧ W.cell? ⟨w.heap.size + 1, 5, none⟩ = some (.int .i64 b) ∧ W.cell? ⟨w.heap.size + 1, 6, none⟩ = some (.int .i64 l) ∧ W.cell? ⟨w.heap.size + 1, 7, none⟩ = some (.string tt) ∧ W.cell? ⟨w.heap.size + 1, 8, none⟩ = some (.string m) ∧ W.cell? ⟨w.heap.size + 1, 9, none⟩ = some (.int .i64 x9) ∧ W.cell? ⟨w.heap.size + 1, 10, none⟩ = some (.int .i64 x10) ∧ W.cell? ⟨w.heap.size + 1, 11, none⟩ = some (.int .i64 x11)) (exact law_grow HS0.out (by repeat (first | exact Grew.refl _ | exact GB2.out | exact GB1.out | refine Grew.drew ?_ | refine Grew.alloc ?_ _ | refine Grew.setCell ?_ (by first | exact Nat.le_refl _ | exact GB1.out.size | exact GB2.out.size | simp) _))) (first | (go_at_call 19; refine (KC.out _ (HG2.out.trans (by repeat (first | exact Grew.refl _ | refine Grew.drew ?_ | refine Grew.alloc ?_ _))) HF.out).mono ?_; rintro e w1 ⟨rv1, bv1, rfl, ht1, g1⟩; have GB1 := Lib.hid (show Grew wb w1 from Grew.trans (by repeat (first | exact Grew.refl _ | refine Grew.drew ?_ | refine Grew.alloc ?_ _)) g1); obtain ⟨A1, k1, rfl, -⟩ := SlI.open_ ht1.1; obtain ⟨A2, k2, rfl, -⟩ := SlBr.open_ ht1.2; have HT1 := Lib.hid ht1; (first | have Na1 := Lib.hid (show Grew (wb.alloc (.cells [.slice none 0 0, .slice none 0 0].toArray 35)) w1 from Grew.trans (Grew.refl _).drew g1) | have Na1 := Lib.hid (show Grew (wb.alloc (.cells [.slice none 0 0, .slice none 0 0].toArray 35)) w1 from Grew.trans (Grew.refl _) g1) | skip); clear ht1 g1) | (go_at_call 18; refine (KP.out _ _ _ (HG2.out.trans (by repeat (first | exact Grew.refl _ | exact GB1.out | refine Grew.drew ?_ | refine Grew.alloc ?_ _))) (HT1.out.mono (by repeat (first | exact Grew.refl _ | refine Grew.drew ?_ | refine Grew.alloc ?_ _))) HF.out).mono ?_; rintro e w2 ⟨rv2, bv2, rfl, ht2, g2⟩; have GX := Lib.hid (show Grew w1 w2 from Grew.trans (by repeat (first | exact Grew.refl _ | refine Grew.drew ?_ | refine Grew.alloc ?_ _)) g2); have GB2 := Lib.hid (GB1.out.trans GX.out); obtain ⟨B1, l1, rfl, -⟩ := SlI.open_ ht2.1; obtain ⟨B2, l2, rfl, -⟩ := SlBr.open_ ht2.2; have HT2 := Lib.hid ht2; (try have PA := heap_grew (Na1.out.trans GX.out) (heap_allocE (a := wb) (p := (.cells [.slice none 0 0, .slice none 0 0].toArray 35)) rfl)); (first | have PB := heap_grew (show Grew (w1.alloc (.cells [.slice none 0 0, .slice none 0 0].toArray 35)) w2 from Grew.trans (Grew.refl _).drew g2) (heap_allocE (a := w1) (p := (.cells [.slice none 0 0, .slice none 0 0].toArray 35)) rfl) | have PB := heap_grew (show Grew (w1.alloc (.cells [.slice none 0 0, .slice none 0 0].toArray 35)) w2 from Grew.trans (Grew.refl _) g2) (heap_allocE (a := w1) (p := (.cells [.slice none 0 0, .slice none 0 0].toArray 35)) rfl) | skip); (try have pa0 := (zt_facts PA).1); (try have pa1 := (zt_facts PA).2.1); (try have pa2 := (zt_facts PA).2.2.1); (try have pa3 := (zt_facts PA).2.2.2); (try have pb0 := (zt_facts PB).1); (try have pb1 := (zt_facts PB).2.1); (try have pb2 := (zt_facts PB).2.2.1); (try have pb3 := (zt_facts PB).2.2.2); clear ht2 g2))
    all_goals go_wp2_with fail
    all_goals go_meet
    all_goals first | exact ap_meet2 GB2.out HT2.out | exact ap_meet PA (Nat.le_refl _) GB2.out HT2.out | exact ap_meet PB GB1.out.size GB2.out HT2.out
  case rest =>
    as_aux_lemma =>
      obtain ⟨X, rvU, bvU, rfl, rfl, x0, x1, hTU, hgU⟩ := hcut
      have HSU := Lib.hid (law_grow HS0.out hgU)
      have HGU := Lib.hid (HG2.out.trans hgU)
      by_cases hn : n = 0
      rotate_left
      · have hnb : (n != 0) = true := by simpa using hn
        clear HP HQC HY
        go_wp2
        go_ret
        exact ⟨rfl, HGU.out⟩
      subst hn
      obtain ⟨hRt, hRU⟩ := HY.out rfl
      have HRT := Lib.hid hRt
      have HRU := Lib.hid hRU
      have HPL := Lib.hid (HP.out rfl)
      have HQL := Lib.hid (HQC.out rfl)
      clear hRt hRU HP HQC HY KP
      have HX := Lib.hid (show wc.cell? ⟨X, 0, none⟩ = some rvU ∧ wc.cell? ⟨X, 1, none⟩ = some bvU ∧ TrOk wc rvU bvU U from ⟨x0, x1, hTU⟩)
      obtain ⟨A5, k5, rfl, -⟩ := SlI.open_ hTU.1
      obtain ⟨B5, l5, rfl, -⟩ := SlBr.open_ hTU.2
      clear x0 x1 hTU hgU
      go_wp2_with fail
      have HL6 := Lib.hid (show (wc.cell? ⟨w.heap.size, 0, none⟩ = some _ ∧ wc.cell? ⟨w.heap.size, 1, none⟩ = some _) ∧ wc.cell? ⟨X, 0, none⟩ = some _ ∧ wc.cell? ⟨X, 1, none⟩ = some _ from ⟨⟨HSU.out.1, HSU.out.2.1⟩, HX.out.1, HX.out.2.1⟩)
      go_region_held3 (fun W => (W.cell? ⟨w.heap.size, 0, none⟩ = some (.slice Ar t.roots.length cr) ∧ W.cell? ⟨w.heap.size, 1, none⟩ = some (.slice Ab t.brs.length cb)) ∧ W.cell? ⟨X, 0, none⟩ = some (.slice A5 U.roots.length k5) ∧ W.cell? ⟨X, 1, none⟩ = some (.slice B5 U.brs.length l5)) (exact four_grow HL6.out (by repeat (first | exact Grew.refl _ | exact G5.out | exact G4.out | exact G3.out | refine Grew.drew ?_ | refine Grew.alloc ?_ _))) (first | (go_at_call 19; have hx3 := G3; clear hx3; refine (KC2.out _ _ _ _ (HX.out.2.2.mono (by repeat (first | exact Grew.refl _ | exact G3.out | refine Grew.drew ?_ | refine Grew.alloc ?_ _))) HRU.out).mono ?_; rintro e w4 ⟨rv4, bv4, rfl, ht4, g4⟩; have G34 := Lib.hid (show Grew w3 w4 from Grew.trans (by repeat (first | exact Grew.refl _ | refine Grew.drew ?_ | refine Grew.alloc ?_ _)) g4); have G4 := Lib.hid (G3.out.trans G34.out); obtain ⟨Ax4, kx4, rfl, -⟩ := SlI.open_ ht4.1; obtain ⟨Bx4, lx4, rfl, -⟩ := SlBr.open_ ht4.2; have HT4 := Lib.hid ht4; clear ht4 g4) | (go_at_call 19; refine (KC.out _ (HGU.out.trans (by repeat (first | exact Grew.refl _ | refine Grew.drew ?_ | refine Grew.alloc ?_ _))) HF.out).mono ?_; rintro e w3 ⟨rv3, bv3, rfl, ht3, g3⟩; have G3 := Lib.hid (show Grew wc w3 from Grew.trans (by repeat (first | exact Grew.refl _ | refine Grew.drew ?_ | refine Grew.alloc ?_ _)) g3); obtain ⟨Ax3, kx3, rfl, -⟩ := SlI.open_ ht3.1; obtain ⟨Bx3, lx3, rfl, -⟩ := SlBr.open_ ht3.2; have HT3 := Lib.hid ht3; clear ht3 g3) | (go_at_call 25; refine (KCH.out _ _ _ _ _ _ _ (HGU.out.trans (by repeat (first | exact Grew.refl _ | exact G4.out | refine Grew.drew ?_ | refine Grew.alloc ?_ _))) (HT3.out.mono (by repeat (first | exact Grew.refl _ | exact G34.out | refine Grew.drew ?_ | refine Grew.alloc ?_ _))) (HT4.out.mono (by repeat (first | exact Grew.refl _ | refine Grew.drew ?_ | refine Grew.alloc ?_ _))) HRT.out HRU.out).mono ?_; rintro e w5 ⟨v5, l5x, rfl, hv5, g5, hc5⟩; have G5 := Lib.hid (show Grew wc w5 from Grew.trans (by repeat (first | exact Grew.refl _ | exact G4.out | refine Grew.drew ?_ | refine Grew.alloc ?_ _)) g5); have HV5 := Lib.hid hv5; have HC5 := Lib.hid hc5; clear hv5 g5 hc5))
      have HSL := Lib.hid (law_grow HSU.out G5.out)
      have HXL := Lib.hid (show _ ∧ _ ∧ _ from ⟨keep_cell G5.out HX.out.1, keep_cell G5.out HX.out.2.1, HX.out.2.2.mono G5.out⟩)
      have HGL := Lib.hid (HGU.out.trans G5.out)
      have HLL := Lib.hid (HQL.out _ HC5.out)
      clear G3 G34 G4 G5 HT3 HT4 HL6 HX HSU HGU HQL HC5 KC KCH HS0
      obtain ⟨r0, b0, a0, a1, a2, a3, a4, a5, a6, a7, a8, a9, a10, a11⟩ := HSL.out
      clear a0 a1 a2 a4 a5 a6 a7 a8 a9 a10 a11
      have hl5 := HLL.out
      rcases hl5 with rfl | rfl
      · clear HLL
        obtain ⟨A6, k6, rfl, -⟩ := SlI.open_ HV5.out
        dsimp only [List.length_nil]
        clear HV5
        go_wp2_with fail
        go_quiet (fail)
        clear a3 r0
        go_wp2_with fail
        have GWL := Lib.hid (show Grew w5 (w5.drewN nq) from (Grew.refl _).drewN _)
        generalize w5.drewN nq = WL at GWL ⊢
        have HSW := Lib.hid (law_grow HSL.out GWL.out)
        have HXW := Lib.hid (show _ ∧ _ ∧ _ from ⟨keep_cell GWL.out HXL.out.1, keep_cell GWL.out HXL.out.2.1, HXL.out.2.2.mono GWL.out⟩)
        have HGW := Lib.hid (HGL.out.trans GWL.out)
        clear GWL HSL HXL HGL KA
        go_loopg [63] t.brs.length (fun gg s63 wr => ∃ k : Nat, k ≤ t.brs.length ∧ t.brs.length - k ≤ gg ∧ s63 = .int .i64 k ∧ Aside (Grew WL wr))
        case atStart => exact ⟨0, by omega, by omega, rfl, (show Aside _ from Grew.refl _)⟩
        case round =>
          obtain ⟨kk, hkl, hgk, rfl, GWK⟩ := hrel
          have hfl : t.brs.length ≤ 257 := HF.out.2.1
          by_cases hlt : kk < t.brs.length
          rotate_left
          · have hltz : ¬ (kk : Int) < (t.brs.length : Int) := by omega
            go_wp2
            go_ret
            exact ⟨rfl, HGW.out.trans GWK.out⟩
          have hltz : (kk : Int) < (t.brs.length : Int) := by omega
          have h0z : (0 : Int) ≤ (kk : Int) := by omega
          obtain ⟨b, off, rfl, hb, hcell⟩ := HBR.out (by omega)
          obtain ⟨kv, hkv, hcl⟩ := hcell kk hlt
          obtain ⟨c0, c1', c2, c3, c4, c5⟩ := hcl wr (HGW.out.trans GWK.out)
          have HKV := Lib.hid (hkv.mono (HGW.out.trans GWK.out))
          have hfk := HFK.out HF.out kk hlt
          obtain ⟨Ak, ck, rfl, -⟩ := SlI.open_ hkv
          have HPK := Lib.hid (HPL.out t.brs[kk] (List.getElem_mem hlt))
          clear hcell hcl hkv
          generalize t.brs[kk] = y at c0 c1' c2 c3 c4 c5 HKV hfk HPK
          obtain ⟨yi, yp, yl, yt, ym, yk⟩ := y
          dsimp only at c0 c1' c2 c3 c4 c5 HKV hfk HPK
          have a3 := keep_cell GWK.out HSW.out.2.2.2.2.2.1
          have a3b := keep_cell ((Grew.refl wr).alloc (.cells #[.int .i64 yi, .int .i64 yp, .int .i64 yl, .string yt, .string ym, .slice Ak yk.length ck] 53)) a3
          by_cases hid : yi = u
          · have hb1 : (yi == u) = true := by simpa using hid
            clear hid
            go_wp2
            go_roundg (t.brs.length - (kk + 1))
            case measure => omega
            case rel => exact ⟨kk + 1, by omega, by omega, by go_num, (show Aside _ from GWK.out.alloc _)⟩
          · have hb1 : (yi == u) = false := by simpa using hid
            obtain ⟨K, hK, hW⟩ := HPK.out hid
            have HWW := Lib.hid hW
            clear hid hW HPK
            have kk1 : ∀ W rx bx, Grew w W → TrOk W rx bx U → Calls Tryz.prog 29 #[.agg #[rx, bx], .int .i64 yi] W (RetIs (K, 0) W) := fun W rx bx hW ht => by
              have := KK.out U yi W rx bx hW ht HRU.out
              rw [show kidsR ⟨U.roots, U.brs⟩ yi = _ from hK] at this
              exact this
            have KK1 := Lib.hid kk1
            clear kk1
            have hKlen : K.length ≤ 1000000 := kidsR_len HRU.out hK
            have HKL := Lib.hid hKlen
            have HYL := Lib.hid hfk
            clear hKlen hfk hK
            have hGB := (Grew.refl wr).alloc (.cells #[.int .i64 yi, .int .i64 yp, .int .i64 yl, .string yt, .string ym, .slice Ak yk.length ck] 53)
            have d0 := new_cell (Grew.refl (wr.alloc (.cells #[.int .i64 yi, .int .i64 yp, .int .i64 yl, .string yt, .string ym, .slice Ak yk.length ck] 53))) 0 _ rfl
            have d5 := new_cell (Grew.refl (wr.alloc (.cells #[.int .i64 yi, .int .i64 yp, .int .i64 yl, .string yt, .string ym, .slice Ak yk.length ck] 53))) 5 _ rfl
            go_wp2_with fail
            generalize wr.alloc (.cells #[.int .i64 yi, .int .i64 yp, .int .i64 yl, .string yt, .string ym, .slice Ak yk.length ck] 53) = WB at hGB d0 d5 a3b ⊢
            generalize wr.heap.size = BX at d0 d5 ⊢
            have HGB := Lib.hid (HGW.out.trans (GWK.out.trans hGB))
            have HWB := Lib.hid (GWK.out.trans hGB)
            have HD := Lib.hid d5
            have HA3 := Lib.hid a3b
            have HXB := Lib.hid (show _ ∧ _ ∧ _ from ⟨keep_cell HWB.out HXW.out.1, keep_cell HWB.out HXW.out.2.1, HXW.out.2.2.mono HWB.out⟩)
            have HKB := Lib.hid (SlI.mono HKV.out hGB)
            have HL13 := Lib.hid (show WB.cell? ⟨X, 0, none⟩ = some _ ∧ WB.cell? ⟨X, 1, none⟩ = some _ ∧ WB.cell? ⟨BX, 0, none⟩ = some _ from ⟨HXB.out.1, HXB.out.2.1, d0⟩)
            clear hGB d0 d5 a3b a3 c0 c1' c2 c3 c4 c5 HKV
            go_region_held3 (fun W => W.cell? ⟨X, 0, none⟩ = some (.slice A5 U.roots.length k5) ∧ W.cell? ⟨X, 1, none⟩ = some (.slice B5 U.brs.length l5) ∧ W.cell? ⟨BX, 0, none⟩ = some (.int .i64 yi)) (exact three_grow HL13.out (by repeat (first | exact Grew.refl _ | exact G8.out | exact G7.out | refine Grew.drew ?_ | refine Grew.alloc ?_ _))) (first | (go_at_call 19; refine (KC2.out _ _ _ _ (HXB.out.2.2.mono (by repeat (first | exact Grew.refl _ | refine Grew.drew ?_ | refine Grew.alloc ?_ _))) HRU.out).mono ?_; rintro e w7 ⟨rv7, bv7, rfl, ht7, g7⟩; have G7 := Lib.hid (show Grew WB w7 from Grew.trans (by repeat (first | exact Grew.refl _ | refine Grew.drew ?_ | refine Grew.alloc ?_ _)) g7); obtain ⟨Ax7, kx7, rfl, -⟩ := SlI.open_ ht7.1; obtain ⟨Bx7, lx7, rfl, -⟩ := SlBr.open_ ht7.2; have HT7 := Lib.hid ht7; clear ht7 g7) | (go_at_call 29; refine (KK1.out _ _ _ (HGB.out.trans (by repeat (first | exact Grew.refl _ | exact G7.out | refine Grew.drew ?_ | refine Grew.alloc ?_ _))) (HT7.out.mono (by repeat (first | exact Grew.refl _ | refine Grew.drew ?_ | refine Grew.alloc ?_ _)))).mono ?_; rintro e w8 ⟨v8, rfl, hv8, g8⟩; have G8 := Lib.hid (show Grew WB w8 from Grew.trans (by repeat (first | exact Grew.refl _ | exact G7.out | refine Grew.drew ?_ | refine Grew.alloc ?_ _)) g8); have HV8 := Lib.hid hv8; clear hv8 g8))
            have HG8 := Lib.hid (HGB.out.trans G8.out)
            clear G7 HT7
            go_wp2_with fail
            go_region_held3 (fun W => W.cell? ⟨BX, 5, none⟩ = some (.slice Ak yk.length ck)) (exact keep_cell (by repeat (first | exact Grew.refl _ | exact G11.out | exact G10.out | exact G9.out | refine Grew.drew ?_ | refine Grew.alloc ?_ _)) (keep_cell G8.out HD.out)) (first | (go_at_call 30; have hx := G9; clear hx; refine (local1 yk u (w.heap.size + 1) (.slice Ak yk.length ck) _ (SlI.mono HKB.out (G8.out.trans (by repeat (first | exact Grew.refl _ | exact G9.out | refine Grew.drew ?_ | refine Grew.alloc ?_ _)))) HYL.out (keep_cell (G8.out.trans (by repeat (first | exact Grew.refl _ | exact G9.out | refine Grew.drew ?_ | refine Grew.alloc ?_ _))) HA3.out)).mono ?_; rintro e w10 ⟨v10, rfl, hv10, g10⟩; have G910 := Lib.hid (show Grew w9 w10 from Grew.trans (by repeat (first | exact Grew.refl _ | refine Grew.drew ?_ | refine Grew.alloc ?_ _)) g10); have G10 := Lib.hid (G9.out.trans G910.out); have HV10 := Lib.hid hv10; clear hv10 g10) | (go_at_call 30; refine (local1 K u (w.heap.size + 1) v8 _ (SlI.mono HV8.out (by repeat (first | exact Grew.refl _ | refine Grew.drew ?_ | refine Grew.alloc ?_ _))) HKL.out (keep_cell (G8.out.trans (by repeat (first | exact Grew.refl _ | refine Grew.drew ?_ | refine Grew.alloc ?_ _))) HA3.out)).mono ?_; rintro e w9 ⟨v9, rfl, hv9, g9⟩; have G9 := Lib.hid (show Grew w8 w9 from Grew.trans (by repeat (first | exact Grew.refl _ | refine Grew.drew ?_ | refine Grew.alloc ?_ _)) g9); have HV9 := Lib.hid hv9; clear hv9 g9) | (go_at_call 27; refine (sameL (withoutF u K) v9 v10 _ (SlI.mono HV9.out (G910.out.trans (by repeat (first | exact Grew.refl _ | refine Grew.drew ?_ | refine Grew.alloc ?_ _)))) (HWW.out ▸ SlI.mono HV10.out (by repeat (first | exact Grew.refl _ | refine Grew.drew ?_ | refine Grew.alloc ?_ _)))).mono ?_; rintro e w11 ⟨rfl, g11⟩; have G11 := Lib.hid (show Grew w8 w11 from Grew.trans (by repeat (first | exact Grew.refl _ | exact G10.out | refine Grew.drew ?_ | refine Grew.alloc ?_ _)) g11); clear g11))
            go_wp2
            go_roundg (t.brs.length - (kk + 1))
            case measure => omega
            case rel => exact ⟨kk + 1, by omega, by omega, by go_num, (show Aside _ from HWB.out.trans (G8.out.trans G11.out))⟩
      · clear HLL
        obtain ⟨A6, k6, rfl, -, -, hcv⟩ := SlI.open_ HV5.out
        obtain ⟨bb6, off6, rfl, -, hcv⟩ := hcv (by simp)
        have q6 := hcv w5 (Grew.refl _) 0 (by simp)
        clear hcv
        dsimp only [List.length_cons, List.length_nil]
        dsimp only [List.getElem_cons_zero] at q6
        rw [Nat.add_zero] at q6
        have hnu : (u != u) = false := by simp
        clear HV5
        go_wp2_with fail
        go_quiet (fail)
        clear a3 r0 q6
        go_wp2_with fail
        have GWL := Lib.hid (show Grew w5 (w5.drewN nq) from (Grew.refl _).drewN _)
        generalize w5.drewN nq = WL at GWL ⊢
        have HSW := Lib.hid (law_grow HSL.out GWL.out)
        have HXW := Lib.hid (show _ ∧ _ ∧ _ from ⟨keep_cell GWL.out HXL.out.1, keep_cell GWL.out HXL.out.2.1, HXL.out.2.2.mono GWL.out⟩)
        have HGW := Lib.hid (HGL.out.trans GWL.out)
        clear GWL HSL HXL HGL KA
        go_loopg [63] t.brs.length (fun gg s63 wr => ∃ k : Nat, k ≤ t.brs.length ∧ t.brs.length - k ≤ gg ∧ s63 = .int .i64 k ∧ Aside (Grew WL wr))
        case atStart => exact ⟨0, by omega, by omega, rfl, (show Aside _ from Grew.refl _)⟩
        case round =>
          obtain ⟨kk, hkl, hgk, rfl, GWK⟩ := hrel
          have hfl : t.brs.length ≤ 257 := HF.out.2.1
          by_cases hlt : kk < t.brs.length
          rotate_left
          · have hltz : ¬ (kk : Int) < (t.brs.length : Int) := by omega
            go_wp2
            go_ret
            exact ⟨rfl, HGW.out.trans GWK.out⟩
          have hltz : (kk : Int) < (t.brs.length : Int) := by omega
          have h0z : (0 : Int) ≤ (kk : Int) := by omega
          obtain ⟨b, off, rfl, hb, hcell⟩ := HBR.out (by omega)
          obtain ⟨kv, hkv, hcl⟩ := hcell kk hlt
          obtain ⟨c0, c1', c2, c3, c4, c5⟩ := hcl wr (HGW.out.trans GWK.out)
          have HKV := Lib.hid (hkv.mono (HGW.out.trans GWK.out))
          have hfk := HFK.out HF.out kk hlt
          obtain ⟨Ak, ck, rfl, -⟩ := SlI.open_ hkv
          have HPK := Lib.hid (HPL.out t.brs[kk] (List.getElem_mem hlt))
          clear hcell hcl hkv
          generalize t.brs[kk] = y at c0 c1' c2 c3 c4 c5 HKV hfk HPK
          obtain ⟨yi, yp, yl, yt, ym, yk⟩ := y
          dsimp only at c0 c1' c2 c3 c4 c5 HKV hfk HPK
          have a3 := keep_cell GWK.out HSW.out.2.2.2.2.2.1
          have a3b := keep_cell ((Grew.refl wr).alloc (.cells #[.int .i64 yi, .int .i64 yp, .int .i64 yl, .string yt, .string ym, .slice Ak yk.length ck] 53)) a3
          by_cases hid : yi = u
          · have hb1 : (yi == u) = true := by simpa using hid
            clear hid
            go_wp2
            go_roundg (t.brs.length - (kk + 1))
            case measure => omega
            case rel => exact ⟨kk + 1, by omega, by omega, by go_num, (show Aside _ from GWK.out.alloc _)⟩
          · have hb1 : (yi == u) = false := by simpa using hid
            obtain ⟨K, hK, hW⟩ := HPK.out hid
            have HWW := Lib.hid hW
            clear hid hW HPK
            have kk1 : ∀ W rx bx, Grew w W → TrOk W rx bx U → Calls Tryz.prog 29 #[.agg #[rx, bx], .int .i64 yi] W (RetIs (K, 0) W) := fun W rx bx hW ht => by
              have := KK.out U yi W rx bx hW ht HRU.out
              rw [show kidsR ⟨U.roots, U.brs⟩ yi = _ from hK] at this
              exact this
            have KK1 := Lib.hid kk1
            clear kk1
            have hKlen : K.length ≤ 1000000 := kidsR_len HRU.out hK
            have HKL := Lib.hid hKlen
            have HYL := Lib.hid hfk
            clear hKlen hfk hK
            have hGB := (Grew.refl wr).alloc (.cells #[.int .i64 yi, .int .i64 yp, .int .i64 yl, .string yt, .string ym, .slice Ak yk.length ck] 53)
            have d0 := new_cell (Grew.refl (wr.alloc (.cells #[.int .i64 yi, .int .i64 yp, .int .i64 yl, .string yt, .string ym, .slice Ak yk.length ck] 53))) 0 _ rfl
            have d5 := new_cell (Grew.refl (wr.alloc (.cells #[.int .i64 yi, .int .i64 yp, .int .i64 yl, .string yt, .string ym, .slice Ak yk.length ck] 53))) 5 _ rfl
            go_wp2_with fail
            generalize wr.alloc (.cells #[.int .i64 yi, .int .i64 yp, .int .i64 yl, .string yt, .string ym, .slice Ak yk.length ck] 53) = WB at hGB d0 d5 a3b ⊢
            generalize wr.heap.size = BX at d0 d5 ⊢
            have HGB := Lib.hid (HGW.out.trans (GWK.out.trans hGB))
            have HWB := Lib.hid (GWK.out.trans hGB)
            have HD := Lib.hid d5
            have HA3 := Lib.hid a3b
            have HXB := Lib.hid (show _ ∧ _ ∧ _ from ⟨keep_cell HWB.out HXW.out.1, keep_cell HWB.out HXW.out.2.1, HXW.out.2.2.mono HWB.out⟩)
            have HKB := Lib.hid (SlI.mono HKV.out hGB)
            have HL13 := Lib.hid (show WB.cell? ⟨X, 0, none⟩ = some _ ∧ WB.cell? ⟨X, 1, none⟩ = some _ ∧ WB.cell? ⟨BX, 0, none⟩ = some _ from ⟨HXB.out.1, HXB.out.2.1, d0⟩)
            clear hGB d0 d5 a3b a3 c0 c1' c2 c3 c4 c5 HKV
            go_region_held3 (fun W => W.cell? ⟨X, 0, none⟩ = some (.slice A5 U.roots.length k5) ∧ W.cell? ⟨X, 1, none⟩ = some (.slice B5 U.brs.length l5) ∧ W.cell? ⟨BX, 0, none⟩ = some (.int .i64 yi)) (exact three_grow HL13.out (by repeat (first | exact Grew.refl _ | exact G8.out | exact G7.out | refine Grew.drew ?_ | refine Grew.alloc ?_ _))) (first | (go_at_call 19; refine (KC2.out _ _ _ _ (HXB.out.2.2.mono (by repeat (first | exact Grew.refl _ | refine Grew.drew ?_ | refine Grew.alloc ?_ _))) HRU.out).mono ?_; rintro e w7 ⟨rv7, bv7, rfl, ht7, g7⟩; have G7 := Lib.hid (show Grew WB w7 from Grew.trans (by repeat (first | exact Grew.refl _ | refine Grew.drew ?_ | refine Grew.alloc ?_ _)) g7); obtain ⟨Ax7, kx7, rfl, -⟩ := SlI.open_ ht7.1; obtain ⟨Bx7, lx7, rfl, -⟩ := SlBr.open_ ht7.2; have HT7 := Lib.hid ht7; clear ht7 g7) | (go_at_call 29; refine (KK1.out _ _ _ (HGB.out.trans (by repeat (first | exact Grew.refl _ | exact G7.out | refine Grew.drew ?_ | refine Grew.alloc ?_ _))) (HT7.out.mono (by repeat (first | exact Grew.refl _ | refine Grew.drew ?_ | refine Grew.alloc ?_ _)))).mono ?_; rintro e w8 ⟨v8, rfl, hv8, g8⟩; have G8 := Lib.hid (show Grew WB w8 from Grew.trans (by repeat (first | exact Grew.refl _ | exact G7.out | refine Grew.drew ?_ | refine Grew.alloc ?_ _)) g8); have HV8 := Lib.hid hv8; clear hv8 g8))
            have HG8 := Lib.hid (HGB.out.trans G8.out)
            clear G7 HT7
            go_wp2_with fail
            go_region_held3 (fun W => W.cell? ⟨BX, 5, none⟩ = some (.slice Ak yk.length ck)) (exact keep_cell (by repeat (first | exact Grew.refl _ | exact G11.out | exact G10.out | exact G9.out | refine Grew.drew ?_ | refine Grew.alloc ?_ _)) (keep_cell G8.out HD.out)) (first | (go_at_call 30; have hx := G9; clear hx; refine (local1 yk u (w.heap.size + 1) (.slice Ak yk.length ck) _ (SlI.mono HKB.out (G8.out.trans (by repeat (first | exact Grew.refl _ | exact G9.out | refine Grew.drew ?_ | refine Grew.alloc ?_ _)))) HYL.out (keep_cell (G8.out.trans (by repeat (first | exact Grew.refl _ | exact G9.out | refine Grew.drew ?_ | refine Grew.alloc ?_ _))) HA3.out)).mono ?_; rintro e w10 ⟨v10, rfl, hv10, g10⟩; have G910 := Lib.hid (show Grew w9 w10 from Grew.trans (by repeat (first | exact Grew.refl _ | refine Grew.drew ?_ | refine Grew.alloc ?_ _)) g10); have G10 := Lib.hid (G9.out.trans G910.out); have HV10 := Lib.hid hv10; clear hv10 g10) | (go_at_call 30; refine (local1 K u (w.heap.size + 1) v8 _ (SlI.mono HV8.out (by repeat (first | exact Grew.refl _ | refine Grew.drew ?_ | refine Grew.alloc ?_ _))) HKL.out (keep_cell (G8.out.trans (by repeat (first | exact Grew.refl _ | refine Grew.drew ?_ | refine Grew.alloc ?_ _))) HA3.out)).mono ?_; rintro e w9 ⟨v9, rfl, hv9, g9⟩; have G9 := Lib.hid (show Grew w8 w9 from Grew.trans (by repeat (first | exact Grew.refl _ | refine Grew.drew ?_ | refine Grew.alloc ?_ _)) g9); have HV9 := Lib.hid hv9; clear hv9 g9) | (go_at_call 27; refine (sameL (withoutF u K) v9 v10 _ (SlI.mono HV9.out (G910.out.trans (by repeat (first | exact Grew.refl _ | refine Grew.drew ?_ | refine Grew.alloc ?_ _)))) (HWW.out ▸ SlI.mono HV10.out (by repeat (first | exact Grew.refl _ | refine Grew.drew ?_ | refine Grew.alloc ?_ _)))).mono ?_; rintro e w11 ⟨rfl, g11⟩; have G11 := Lib.hid (show Grew w8 w11 from Grew.trans (by repeat (first | exact Grew.refl _ | exact G10.out | refine Grew.drew ?_ | refine Grew.alloc ?_ _)) g11); clear g11))
            go_wp2
            go_roundg (t.brs.length - (kk + 1))
            case measure => omega
            case rel => exact ⟨kk + 1, by omega, by omega, by go_num, (show Aside _ from HWB.out.trans (G8.out.trans G11.out))⟩
end Go.Proofs.YtafncfomiolmgaaGreatDoor
