/- The law RearrangeRight, walked, its awake given. The condition: the library's own variables hold what they must. -/
import Derived.Test.YtafncfomiolmgaaGreatDoorQ31
import Derived.Test.YtafncfomiolmgaaGreatDoorQ6
namespace Go.Proofs.YtafncfomiolmgaaGreatDoor
open Go.RowKit

set_option maxHeartbeats 16000000 in
set_option maxRecDepth 100000 in
theorem right_of (t : Tr) (o : Opn) (rv bv : Value) (w : World) (hE : Env w) (hr : SlI w rv t.roots) (hb : SlBr w bv t.brs) (hkw : (Lit.int .i64 o.kind).wf = true) (hA : ∀ W, Grew w W → Calls Tryz.prog 11 #[] W fun e w' => e = .returned (.bool true) ∧ Grew W w') : Calls Tryz.prog 6 #[.agg #[rv, bv], o.agg] w fun e w' => e = .returned (.bool true) ∧ Grew w w' := by
  have KA := Lib.hid hA
  have kW := fun W (hW : Grew w W) => fewLaw t o rv bv W (hr.mono hW) (hb.mono hW)
  have kC := fun W (hW : Grew w W) (hf : FewTM t.roots t.brs) => cpTr t rv bv W (hr.mono hW) (hb.mono hW) hf.br hf.rs
  have kC2 := fun (x : Tr) W rx bx (ht : TrOk W rx bx x) (hx : RightT x) => cpTr x rx bx W ht.1 ht.2 (right_few hx).1 (right_few hx).2
  have kP := fun W rx bx (hW : Grew w W) (ht : TrOk W rx bx t) (hf : FewTM t.roots t.brs) => rApply t o rx bx W (hE.mono hW) ht.1 ht.2 hf.br hf.rs hkw
  have kK := fun (x : Tr) W rx bx (hW : Grew w W) (ht : TrOk W rx bx x) (hx : RightT x) => tCheckX x.roots x.brs rx bx W (hE.mono hW) ht.1 ht.2 (right_few hx).1 (right_few hx).2
  have hN := Lib.hid (fun h => applyR_none (t := t) (o := o) h)
  have hY := Lib.hid (fun h => applyR_right (t := t) (o := o) h)
  generalize applyR t o = R at kP hN hY
  obtain ⟨U, n⟩ := R
  have KK := Lib.hid kK
  clear kK hE
  obtain ⟨Ar, cr, rfl, -⟩ := hr.open_
  obtain ⟨Ab, cb, rfl, -⟩ := hb.open_
  have HB := Lib.hid (fun (r b : Value) W (g : Grew ((w.alloc (.cells [r, b].toArray 35)).alloc (.cells o.cells.toArray 25)) W) => law_cells o g)
  generalize hFO : FewO o = FO at kW
  obtain ⟨i, d, k, u, p, b, l, tt, m, x9, x10, x11⟩ := o
  unfold Opn.agg at kW kP ⊢
  unfold Opn.cells at HB
  dsimp only at kW kP HB ⊢
  have KW := Lib.hid kW
  have KP := Lib.hid kP
  have KC := Lib.hid kC
  have KC2 := Lib.hid kC2
  clear kW kP kC kC2 hr hb hA
  go_enter Tryz.func6, Tryz.ntmps6
  go_wp2_with fail
  refine (KA.out _ (((Grew.refl w).alloc _).alloc _)).mono ?_
  rintro e wa ⟨rfl, ga⟩
  have hh := HB.out _ _ wa ga
  have HG1 := Lib.hid ((((Grew.refl w).alloc _).alloc _).trans ga)
  have HS1 := Lib.hid hh
  clear ga HB
  obtain ⟨r0, b0, a0, a1, a2, a3, a4, a5, a6, a7, a8, a9, a10, a11⟩ := hh
  dsimp only
  go_wp2_with fail
  refine (KW.out _ HG1.out).mono ?_
  rintro e wb ⟨q, rfl, hq, gb⟩
  have HS0 := Lib.hid (law_grow HS1.out gb)
  have HG2 := Lib.hid (HG1.out.trans gb)
  have HQ := Lib.hid hq
  clear hq gb HG1 HS1 r0 b0 a0 a1 a2 a3 a4 a5 a6 a7 a8 a9 a10 a11
  dsimp only
  cases q
  · clear HQ
    go_wp2_with fail
    refine (KA.out _ HG2.out).mono ?_
    rintro e wz ⟨rfl, g3⟩
    have HG3 := Lib.hid (HG2.out.trans g3)
    clear g3
    dsimp only
    go_wp2
    go_ret
    exact ⟨rfl, HG3.out⟩
  have HF := Lib.hid (HQ.out rfl).1
  clear HQ
  go_wp2_with fail
  go_cut [5, 6] from 20 to 27 (fun s5 s6 wx => ApCut wb (U, (n : Int)) s5 s6 wx)
  case first =>
    as_aux_lemma =>
    go_region_held3 (fun W => W.cell? ⟨w.heap.size, 0, none⟩ = some (.slice Ar t.roots.length cr) ∧ W.cell? ⟨w.heap.size, 1, none⟩ = some (.slice Ab t.brs.length cb) ∧ W.cell? ⟨w.heap.size + 1, 0, none⟩ = some (.int .i64 i) ∧ W.cell? ⟨w.heap.size + 1, 1, none⟩ = some (.int .i64 d) ∧ W.cell? ⟨w.heap.size + 1, 2, none⟩ = some (.int .i64 k) ∧ W.cell? ⟨w.heap.size + 1, 3, none⟩ = some (.int .i64 u) ∧ W.cell? ⟨w.heap.size + 1, 4, none⟩ = some (.int .i64 p) ∧ W.cell? ⟨w.heap.size + 1, 5, none⟩ = some (.int .i64 b) ∧ W.cell? ⟨w.heap.size + 1, 6, none⟩ = some (.int .i64 l) ∧ W.cell? ⟨w.heap.size + 1, 7, none⟩ = some (.string tt) ∧ W.cell? ⟨w.heap.size + 1, 8, none⟩ = some (.string m) ∧ W.cell? ⟨w.heap.size + 1, 9, none⟩ = some (.int .i64 x9) ∧ W.cell? ⟨w.heap.size + 1, 10, none⟩ = some (.int .i64 x10) ∧ W.cell? ⟨w.heap.size + 1, 11, none⟩ = some (.int .i64 x11)) (exact law_grow HS0.out (by repeat (first | exact Grew.refl _ | exact GB2.out | exact GB1.out | refine Grew.drew ?_ | refine Grew.alloc ?_ _ | refine Grew.setCell ?_ (by first | exact Nat.le_refl _ | exact GB1.out.size | exact GB2.out.size | simp) _))) (first | (go_at_call 19; refine (KC.out _ (HG2.out.trans (by repeat (first | exact Grew.refl _ | refine Grew.drew ?_ | refine Grew.alloc ?_ _))) HF.out).mono ?_; rintro e w1 ⟨rv1, bv1, rfl, ht1, g1⟩; have GB1 := Lib.hid (show Grew wb w1 from Grew.trans (by repeat (first | exact Grew.refl _ | refine Grew.drew ?_ | refine Grew.alloc ?_ _)) g1); obtain ⟨A1, k1, rfl, -⟩ := SlI.open_ ht1.1; obtain ⟨A2, k2, rfl, -⟩ := SlBr.open_ ht1.2; have HT1 := Lib.hid ht1; (first | have Na1 := Lib.hid (show Grew (wb.alloc (.cells [.slice none 0 0, .slice none 0 0].toArray 35)) w1 from Grew.trans (Grew.refl _).drew g1) | have Na1 := Lib.hid (show Grew (wb.alloc (.cells [.slice none 0 0, .slice none 0 0].toArray 35)) w1 from Grew.trans (Grew.refl _) g1) | skip); clear ht1 g1) | (go_at_call 18; refine (KP.out _ _ _ (HG2.out.trans (by repeat (first | exact Grew.refl _ | exact GB1.out | refine Grew.drew ?_ | refine Grew.alloc ?_ _))) (HT1.out.mono (by repeat (first | exact Grew.refl _ | refine Grew.drew ?_ | refine Grew.alloc ?_ _))) HF.out).mono ?_; rintro e w2 ⟨rv2, bv2, rfl, ht2, g2⟩; have GX := Lib.hid (show Grew w1 w2 from Grew.trans (by repeat (first | exact Grew.refl _ | refine Grew.drew ?_ | refine Grew.alloc ?_ _)) g2); have GB2 := Lib.hid (GB1.out.trans GX.out); obtain ⟨B1, l1, rfl, -⟩ := SlI.open_ ht2.1; obtain ⟨B2, l2, rfl, -⟩ := SlBr.open_ ht2.2; have HT2 := Lib.hid ht2; (try have PA := heap_grew (Na1.out.trans GX.out) (heap_allocE (a := wb) (p := (.cells [.slice none 0 0, .slice none 0 0].toArray 35)) rfl)); (first | have PB := heap_grew (show Grew (w1.alloc (.cells [.slice none 0 0, .slice none 0 0].toArray 35)) w2 from Grew.trans (Grew.refl _).drew g2) (heap_allocE (a := w1) (p := (.cells [.slice none 0 0, .slice none 0 0].toArray 35)) rfl) | have PB := heap_grew (show Grew (w1.alloc (.cells [.slice none 0 0, .slice none 0 0].toArray 35)) w2 from Grew.trans (Grew.refl _) g2) (heap_allocE (a := w1) (p := (.cells [.slice none 0 0, .slice none 0 0].toArray 35)) rfl) | skip); (try have pa0 := (zt_facts PA).1); (try have pa1 := (zt_facts PA).2.1); (try have pa2 := (zt_facts PA).2.2.1); (try have pa3 := (zt_facts PA).2.2.2); (try have pb0 := (zt_facts PB).1); (try have pb1 := (zt_facts PB).2.1); (try have pb2 := (zt_facts PB).2.2.1); (try have pb3 := (zt_facts PB).2.2.2); clear ht2 g2))
    all_goals go_wp2_with fail
    all_goals go_meet
    all_goals first | exact ap_meet2 GB2.out HT2.out | exact ap_meet PA (Nat.le_refl _) GB2.out HT2.out | exact ap_meet PB GB1.out.size GB2.out HT2.out
  case rest =>
    as_aux_lemma =>
      obtain ⟨X, rvU, bvU, rfl, rfl, x0, x1, hTU, hgU⟩ := hcut
      have HSU := Lib.hid (law_grow HS0.out hgU)
      have HGU := Lib.hid (HG2.out.trans hgU)
      by_cases hn : n = 0
      · subst hn
        obtain ⟨hRt, hRU⟩ := hY.out rfl
        have HRT := Lib.hid hRt
        have HRU := Lib.hid hRU
        have HX := Lib.hid (show wc.cell? ⟨X, 0, none⟩ = some rvU ∧ wc.cell? ⟨X, 1, none⟩ = some bvU ∧ TrOk wc rvU bvU U from ⟨x0, x1, hTU⟩)
        clear x0 x1 hTU hgU hRt hRU hN hY KP
        obtain ⟨r0, b0, -⟩ := HSU.out
        go_wp2_with fail
        refine (KC.out _ HGU.out HF.out).mono ?_
        rintro e w3 ⟨rv3, bv3, rfl, ht3, g3⟩
        have HG3 := Lib.hid (HGU.out.trans g3)
        have HU3 := Lib.hid g3
        have HT3 := Lib.hid ht3
        obtain ⟨A1, k1, rfl, -⟩ := SlI.open_ ht3.1
        obtain ⟨A2, k2, rfl, -⟩ := SlBr.open_ ht3.2
        clear ht3 g3 r0 b0
        dsimp only
        go_wp2_with fail
        refine (KK.out _ _ _ _ HG3.out HT3.out HRT.out).mono ?_
        rintro e w4 ⟨i4, n4, rfl, h41, h42, -, g4⟩
        obtain rfl := h41.2 HRT.out
        obtain rfl := h42 rfl
        have HG4 := Lib.hid (HG3.out.trans g4)
        have HU4 := Lib.hid (HU3.out.trans g4)
        clear g4 h41 h42 HT3
        obtain ⟨x0, x1, hTU⟩ := HX.out
        replace x0 := keep_cell HU4.out x0
        replace x1 := keep_cell HU4.out x1
        have HT4 := Lib.hid (hTU.mono HU4.out)
        clear hTU HX
        dsimp only
        go_wp2_with fail
        refine (KC2.out _ _ _ _ HT4.out HRU.out).mono ?_
        rintro e w5 ⟨rv5, bv5, rfl, ht5, g5⟩
        have HG5 := Lib.hid (HG4.out.trans g5)
        have HT5 := Lib.hid ht5
        obtain ⟨A3, k3, rfl, -⟩ := SlI.open_ ht5.1
        obtain ⟨A4, k4, rfl, -⟩ := SlBr.open_ ht5.2
        clear ht5 g5 x0 x1
        dsimp only
        go_wp2_with fail
        refine (KK.out _ _ _ _ HG5.out HT5.out HRU.out).mono ?_
        rintro e w6 ⟨i6, n6, rfl, h61, h62, -, g6⟩
        obtain rfl := h61.2 HRU.out
        obtain rfl := h62 rfl
        have HG6 := Lib.hid (HG5.out.trans g6)
        clear g6 h61 h62
        dsimp only
        go_wp2
        go_ret
        exact ⟨rfl, HG6.out⟩
      · obtain rfl := hN.out hn
        have hnb : (n != 0) = true := by simpa using hn
        have ht := hTU
        obtain ⟨A1, k1, rfl, -⟩ := SlI.open_ ht.1
        obtain ⟨A2, k2, rfl, -⟩ := SlBr.open_ ht.2
        clear ht hTU hgU hN hY KP KC KC2 KK HSU HS0
        dsimp only [List.length_nil] at x0 x1
        go_wp2
        go_ret
        exact ⟨rfl, HGU.out⟩
end Go.Proofs.YtafncfomiolmgaaGreatDoor
