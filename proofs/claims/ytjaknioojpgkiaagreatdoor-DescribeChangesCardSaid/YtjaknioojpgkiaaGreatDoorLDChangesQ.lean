/- The law DescribeChanges, walked, its awake given. The condition: the library's own variables hold what they must. -/
import Derived.Test.YtjaknioojpgkiaaGreatDoorQ42
import Derived.Test.YtjaknioojpgkiaaGreatDoorQ43
import Derived.Test.YtjaknioojpgkiaaGreatDoorQ13
namespace Go.Proofs.YtjaknioojpgkiaaGreatDoor
open Go.RowKit

set_option maxHeartbeats 16000000 in
set_option maxRecDepth 100000 in
theorem dchanges_of (t : Tr) (ls : List ByteArray) (vs : List Val) (vu ve : Int) (vl vt : ByteArray) (rv bv lv vv : Value) (w : World) (hE : Env w) (hr : SlI w rv t.roots) (hb : SlBr w bv t.brs) (hl : SlS w lv ls) (hvv : SlV w vv vs) (hA : ∀ W, Grew w W → Calls Tryz.prog 10 #[] W fun e w' => e = .returned (.bool true) ∧ Grew W w') :
    Calls Tryz.prog 3 #[.agg #[rv, bv], lv, vv, .agg #[.int .i64 vu, .int .i64 ve, .string vl, .string vt]] w fun e w' => e = .returned (.bool true) ∧ Grew w w' := by
  have KA := Lib.hid hA
  have KW := Lib.hid (fun ms mv W (hW : Grew w W) (hm : SlS W mv ms) => fewLawD t ls vs ms rv bv lv vv mv W (hr.mono hW) (hb.mono hW) (hl.mono hW) (hvv.mono hW) hm)
  have KCS := Lib.hid (fun W (hW : Grew w W) (hf : FewI t ls vs) => clS ls lv W (hl.mono hW) hf.2.1)
  have KCV := Lib.hid (fun W (hW : Grew w W) (hf : FewI t ls vs) => clV vs vv W (hvv.mono hW) hf.2.2)
  have KW2 := Lib.hid (fun vv' W (hW : Grew w W) (hv' : SlV W vv' [⟨vu, ve, vl, vt⟩]) => few27q ls [⟨vu, ve, vl, vt⟩] lv vv' W (hl.mono hW) hv')
  have kN := fun lv' vv' W (hW : Grew w W) (hl' : SlS W lv' ls) (hv' : SlV W vv' vs) (hf : FewI t ls vs) => dNormal t ls vs rv bv lv' vv' W (hE.mono hW) (hr.mono hW) (hb.mono hW) hf.1.br hf.1.rs hl' hv' (by have := hf.2.2; omega)
  have kS := fun lv' vv' W (hW : Grew w W) (hl' : SlS W lv' ls) (hv' : SlV W vv' vs) (hf : FewI t ls vs) => dSet t ls vs ⟨vu, ve, vl, vt⟩ rv bv lv' vv' W (hE.mono hW) (hr.mono hW) (hb.mono hW) hf.1.br hf.1.rs hl' hv' (by have := hf.2.2; omega)
  have kC := fun lv' vv' W (hW : Grew w W) (hl' : SlS W lv' ls) (hv' : SlV W vv' vs) (hf : FewI t ls vs) => dClear t ls vs vu ve vl rv bv lv' vv' W (hE.mono hW) (hr.mono hW) (hb.mono hW) hf.1.br hf.1.rs hl' hv' (by have := hf.2.2; omega)
  have kN2 := fun W (hW : Grew w W) (hf : FewI t ls vs) => refNormal t ls vs rv bv lv vv W (hr.mono hW) (hb.mono hW) hf.1.br hf.1.rs hf.1.marks (hl.mono hW) (hvv.mono hW) (by have := hf.2.2; omega)
  have kS2 := fun W (hW : Grew w W) (hf : FewI t ls vs) => refSet29 t ls vs ⟨vu, ve, vl, vt⟩ rv bv lv vv W (hr.mono hW) (hb.mono hW) hf.1.br hf.1.rs hf.1.marks (hl.mono hW) (hvv.mono hW) (by have := hf.2.2; omega)
  have kC2 := fun W (hW : Grew w W) (hf : FewI t ls vs) => refClear t ls vs vu ve vl rv bv lv vv W (hr.mono hW) (hb.mono hW) hf.1.br hf.1.rs hf.1.marks (hl.mono hW) (hvv.mono hW) (by have := hf.2.2; omega)
  unfold RetVL at kN kS kC kN2 kS2 kC2
  unfold Val.agg at kS kS2
  generalize normR t ls vs = R at kN kN2
  generalize setR t ls vs ⟨vu, ve, vl, vt⟩ = Q at kS kS2
  generalize clearR t ls vs ⟨vu, ve, vl, ⟨#[]⟩⟩ = C at kC kC2
  obtain ⟨na, ne⟩ := R
  obtain ⟨sa, se⟩ := Q
  obtain ⟨ca, ce⟩ := C
  dsimp only at kN kN2 kS kS2 kC kC2
  have KN := Lib.hid kN
  have KS := Lib.hid kS
  have KC := Lib.hid kC
  have KN2 := Lib.hid kN2
  have KS2 := Lib.hid kS2
  have KC2 := Lib.hid kC2
  clear kN kS kC kN2 kS2 kC2
  obtain ⟨Av, cv, rfl, -⟩ := hvv.open_
  obtain ⟨Ar, cr, rfl, -⟩ := hr.open_
  obtain ⟨Ab, cb, rfl, -⟩ := hb.open_
  clear hE hr hb hl hvv hA
  have HVN := Lib.hid (fun (W : World) => heap_newI (w.alloc (.cells #[.slice Ar t.roots.length cr, .slice Ab t.brs.length cb] 25)) (.cells #[.int .i64 vu, .int .i64 ve, .string vl, .string vt] 29))
  go_enter Tryz.func3, Tryz.ntmps3
  go_wp2_with fail
  refine (KA.out _ (((Grew.refl w).alloc _).alloc _)).mono ?_
  rintro e wa ⟨rfl, ga⟩
  have t0 := new_cell (w := w) (((Grew.refl _).alloc _).trans ga) 0 _ rfl
  have t1 := new_cell (w := w) (((Grew.refl _).alloc _).trans ga) 1 _ rfl
  have hvh := heap_keepI ga (HVN.out w)
  rw [World.size_alloc] at hvh
  obtain ⟨⟨v0, v1, v2, v3⟩, -⟩ := four_cells hvh
  have HTB := Lib.hid (show ∀ W, Grew wa W → W.cell? ⟨w.heap.size, 0, none⟩ = some (.slice Ar t.roots.length cr) ∧ W.cell? ⟨w.heap.size, 1, none⟩ = some (.slice Ab t.brs.length cb) from fun W g => ⟨keep_cell g t0, keep_cell g t1⟩)
  have HVB := Lib.hid (show ∀ W, Grew wa W → W.cell? ⟨w.heap.size + 1, 0, none⟩ = some (.int .i64 vu) ∧ W.cell? ⟨w.heap.size + 1, 1, none⟩ = some (.int .i64 ve) ∧ W.cell? ⟨w.heap.size + 1, 2, none⟩ = some (.string vl) ∧ W.cell? ⟨w.heap.size + 1, 3, none⟩ = some (.string vt) from fun W g => ⟨keep_cell g v0, keep_cell g v1, keep_cell g v2, keep_cell g v3⟩)
  have HG := Lib.hid ((((Grew.refl w).alloc _).alloc _).trans ga)
  clear ga hvh HVN
  dsimp only
  go_wp2_with fail
  refine (KW.out _ _ _ (HG.out.alloc _) (lit1S _ _)).mono ?_
  rintro e wb ⟨q, rfl, hq, gb⟩
  have HQ := Lib.hid hq
  have GB := Lib.hid (Grew.trans ((Grew.refl wa).alloc _) gb)
  clear hq gb
  replace HG := Lib.hid (HG.out.trans GB.out)
  replace HTB := Lib.hid (fun W gg => HTB.out W (Grew.trans GB.out gg))
  replace HVB := Lib.hid (fun W gg => HVB.out W (Grew.trans GB.out gg))
  clear t0 t1
  obtain ⟨t0, t1⟩ := HTB.out _ (Grew.refl _)
  clear v0 v1 v2 v3
  obtain ⟨v0, v1, v2, v3⟩ := HVB.out _ (Grew.refl _)
  dsimp only
  cases q
  · clear HQ
    go_wp2_with fail
    refine (KA.out _ HG.out).mono ?_
    rintro e wz ⟨rfl, g3⟩
    have HG3 := Lib.hid (HG.out.trans g3)
    clear g3
    dsimp only
    go_wp2
    go_ret
    exact ⟨rfl, HG3.out⟩
  have HF := Lib.hid (HQ.out (by first | rfl | trivial))
  clear HQ
  go_wp2_with fail
  refine (KW2.out _ _ (HG.out.alloc _) (lit1V vu ve vl vt _)).mono ?_
  rintro e wd ⟨q, rfl, gd⟩
  have GD := Lib.hid (Grew.trans ((Grew.refl wb).alloc _) gd)
  clear gd
  replace HG := Lib.hid (HG.out.trans GD.out)
  replace HTB := Lib.hid (fun W gg => HTB.out W (Grew.trans GD.out gg))
  replace HVB := Lib.hid (fun W gg => HVB.out W (Grew.trans GD.out gg))
  clear t0 t1
  obtain ⟨t0, t1⟩ := HTB.out _ (Grew.refl _)
  clear v0 v1 v2 v3
  obtain ⟨v0, v1, v2, v3⟩ := HVB.out _ (Grew.refl _)
  dsimp only
  cases q
  · clear KW
    go_wp2_with fail
    refine (KA.out _ HG.out).mono ?_
    rintro e wz ⟨rfl, g3⟩
    have HG3 := Lib.hid (HG.out.trans g3)
    clear g3
    dsimp only
    go_wp2
    go_ret
    exact ⟨rfl, HG3.out⟩
  go_wp2_with fail
  go_cut [9, 10] from 42 to 49 (fun s1 s2 wx => LvsCut wd na ne s1 s2 wx)
  case first =>
    go_region_held3 (fun W => W.cell? ⟨w.heap.size, 0, none⟩ = some (.slice Ar t.roots.length cr) ∧ W.cell? ⟨w.heap.size, 1, none⟩ = some (.slice Ab t.brs.length cb) ∧ W.cell? ⟨w.heap.size + 1, 0, none⟩ = some (.int .i64 vu) ∧ W.cell? ⟨w.heap.size + 1, 1, none⟩ = some (.int .i64 ve) ∧ W.cell? ⟨w.heap.size + 1, 2, none⟩ = some (.string vl) ∧ W.cell? ⟨w.heap.size + 1, 3, none⟩ = some (.string vt) ∧ Grew wd W) (refine held6 wd _ t0 t1 v0 v1 v2 v3 (by repeat (with_reducible first | exact Grew.refl _ | exact GZ.out | exact GQ2.out | exact GQ1.out | refine Grew.drew ?_ | refine Grew.alloc ?_ _ | refine Grew.setCell ?_ (by first | exact Nat.le_refl _ | exact GZ.out.size | exact GQ2.out.size | exact GQ1.out.size | simp) _))) (first | (go_at_call 14; with_reducible refine (KCS.out _ (HG.out.trans (by repeat (with_reducible first | exact Grew.refl _ | refine Grew.drew ?_ | refine Grew.alloc ?_ _))) HF.out).mono ?_; rintro e wq1 ⟨A1, c1, rfl, h5, gq⟩; have GX := Lib.hid (show Grew wd wq1 from Grew.trans (by repeat (with_reducible first | exact Grew.refl _ | refine Grew.drew ?_ | refine Grew.alloc ?_ _)) gq); have GQ1 := Lib.hid (show Grew wd wq1 from GX.out); have HLS1_1 := Lib.hid h5; clear h5 gq GX) | (go_at_call 15; with_reducible refine (KCV.out _ (HG.out.trans (GQ1.out.trans (by repeat (with_reducible first | exact Grew.refl _ | refine Grew.drew ?_ | refine Grew.alloc ?_ _)))) HF.out).mono ?_; rintro e wq2 ⟨A2, c2, rfl, h5, gq⟩; have GX := Lib.hid (show Grew wq1 wq2 from Grew.trans (by repeat (with_reducible first | exact Grew.refl _ | refine Grew.drew ?_ | refine Grew.alloc ?_ _)) gq); have GQ2 := Lib.hid (show Grew wd wq2 from GQ1.out.trans GX.out); have HLS1_2 := Lib.hid (HLS1_1.out.mono GX.out); have HLS2_2 := Lib.hid h5; clear h5 gq GX) | (go_at_call 13; with_reducible refine (KN.out _ _ _ (HG.out.trans (GQ2.out.trans (by repeat (with_reducible first | exact Grew.refl _ | refine Grew.drew ?_ | refine Grew.alloc ?_ _)))) (HLS1_2.out.mono (by repeat (with_reducible first | exact Grew.refl _ | refine Grew.drew ?_ | refine Grew.alloc ?_ _))) (HLS2_2.out.mono (by repeat (with_reducible first | exact Grew.refl _ | refine Grew.drew ?_ | refine Grew.alloc ?_ _))) HF.out).mono ?_; rintro e wz ⟨vq, rfl, ho, gq⟩; have GZ := Lib.hid (show Grew wd wz from GQ2.out.trans (Grew.trans (by repeat (with_reducible first | exact Grew.refl _ | refine Grew.drew ?_ | refine Grew.alloc ?_ _)) gq)); obtain ⟨Aq, cq, rfl⟩ := own_slice ho; have HO := Lib.hid (Rd.of_own ho); clear ho gq))
    all_goals go_wp2_with fail
    all_goals go_meet
    all_goals exact lvsC HO.out GZ.out
  case rest =>
    obtain ⟨⟨Aj, cj, rfl⟩, rfl, HLX, GC⟩ := hcut
    replace HG := Lib.hid (HG.out.trans GC.out)
    replace HTB := Lib.hid (fun W gg => HTB.out W (Grew.trans GC.out gg))
    replace HVB := Lib.hid (fun W gg => HVB.out W (Grew.trans GC.out gg))
    clear t0 t1
    obtain ⟨t0, t1⟩ := HTB.out _ (Grew.refl _)
    clear v0 v1 v2 v3
    obtain ⟨v0, v1, v2, v3⟩ := HVB.out _ (Grew.refl _)
    have Hj := Lib.hid HLX.out
    clear HLX GC
    go_wp2_with fail
    refine (KN2.out _ HG.out HF.out).mono ?_
    rintro e wv1 ⟨vq, rfl, ho, gq⟩
    have GQ1 := Lib.hid gq
    obtain ⟨Ak, ck, rfl⟩ := own_slice ho
    have Hk := Lib.hid (Rd.of_own ho)
    clear ho gq
    replace HG := Lib.hid (HG.out.trans GQ1.out)
    replace HTB := Lib.hid (fun W gg => HTB.out W (Grew.trans GQ1.out gg))
    replace HVB := Lib.hid (fun W gg => HVB.out W (Grew.trans GQ1.out gg))
    replace Hj := Lib.hid (Hj.out.mono GQ1.out)
    clear t0 t1
    obtain ⟨t0, t1⟩ := HTB.out _ (Grew.refl _)
    clear v0 v1 v2 v3
    obtain ⟨v0, v1, v2, v3⟩ := HVB.out _ (Grew.refl _)
    dsimp only
    go_wp2_with fail
    go_cut [13, 14] from 58 to 66 (fun s1 s2 wx => LvsCut wv1 sa se s1 s2 wx)
    case first =>
      go_region_held3 (fun W => W.cell? ⟨w.heap.size, 0, none⟩ = some (.slice Ar t.roots.length cr) ∧ W.cell? ⟨w.heap.size, 1, none⟩ = some (.slice Ab t.brs.length cb) ∧ W.cell? ⟨w.heap.size + 1, 0, none⟩ = some (.int .i64 vu) ∧ W.cell? ⟨w.heap.size + 1, 1, none⟩ = some (.int .i64 ve) ∧ W.cell? ⟨w.heap.size + 1, 2, none⟩ = some (.string vl) ∧ W.cell? ⟨w.heap.size + 1, 3, none⟩ = some (.string vt) ∧ Grew wv1 W) (refine held6 wv1 _ t0 t1 v0 v1 v2 v3 (by repeat (with_reducible first | exact Grew.refl _ | exact GZ.out | exact GQ2.out | exact GQ1.out | refine Grew.drew ?_ | refine Grew.alloc ?_ _ | refine Grew.setCell ?_ (by first | exact Nat.le_refl _ | exact GZ.out.size | exact GQ2.out.size | exact GQ1.out.size | simp) _))) (first | (go_at_call 14; with_reducible refine (KCS.out _ (HG.out.trans (by repeat (with_reducible first | exact Grew.refl _ | refine Grew.drew ?_ | refine Grew.alloc ?_ _))) HF.out).mono ?_; rintro e wq1 ⟨A1, c1, rfl, h5, gq⟩; have GX := Lib.hid (show Grew wv1 wq1 from Grew.trans (by repeat (with_reducible first | exact Grew.refl _ | refine Grew.drew ?_ | refine Grew.alloc ?_ _)) gq); have GQ1 := Lib.hid (show Grew wv1 wq1 from GX.out); have HLS1_1 := Lib.hid h5; clear h5 gq GX) | (go_at_call 15; with_reducible refine (KCV.out _ (HG.out.trans (GQ1.out.trans (by repeat (with_reducible first | exact Grew.refl _ | refine Grew.drew ?_ | refine Grew.alloc ?_ _)))) HF.out).mono ?_; rintro e wq2 ⟨A2, c2, rfl, h5, gq⟩; have GX := Lib.hid (show Grew wq1 wq2 from Grew.trans (by repeat (with_reducible first | exact Grew.refl _ | refine Grew.drew ?_ | refine Grew.alloc ?_ _)) gq); have GQ2 := Lib.hid (show Grew wv1 wq2 from GQ1.out.trans GX.out); have HLS1_2 := Lib.hid (HLS1_1.out.mono GX.out); have HLS2_2 := Lib.hid h5; clear h5 gq GX) | (go_at_call 17; with_reducible refine (KS.out _ _ _ (HG.out.trans (GQ2.out.trans (by repeat (with_reducible first | exact Grew.refl _ | refine Grew.drew ?_ | refine Grew.alloc ?_ _)))) (HLS1_2.out.mono (by repeat (with_reducible first | exact Grew.refl _ | refine Grew.drew ?_ | refine Grew.alloc ?_ _))) (HLS2_2.out.mono (by repeat (with_reducible first | exact Grew.refl _ | refine Grew.drew ?_ | refine Grew.alloc ?_ _))) HF.out).mono ?_; rintro e wz ⟨vq, rfl, ho, gq⟩; have GZ := Lib.hid (show Grew wv1 wz from GQ2.out.trans (Grew.trans (by repeat (with_reducible first | exact Grew.refl _ | refine Grew.drew ?_ | refine Grew.alloc ?_ _)) gq)); obtain ⟨Aq, cq, rfl⟩ := own_slice ho; have HO := Lib.hid (Rd.of_own ho); clear ho gq))
      all_goals go_wp2_with fail
      all_goals go_meet
      all_goals exact lvsC HO.out GZ.out
    case rest =>
      obtain ⟨⟨Am, cm, rfl⟩, rfl, HLX, GC⟩ := hcut
      replace HG := Lib.hid (HG.out.trans GC.out)
      replace HTB := Lib.hid (fun W gg => HTB.out W (Grew.trans GC.out gg))
      replace HVB := Lib.hid (fun W gg => HVB.out W (Grew.trans GC.out gg))
      replace Hj := Lib.hid (Hj.out.mono GC.out)
      replace Hk := Lib.hid (Hk.out.mono GC.out)
      clear t0 t1
      obtain ⟨t0, t1⟩ := HTB.out _ (Grew.refl _)
      clear v0 v1 v2 v3
      obtain ⟨v0, v1, v2, v3⟩ := HVB.out _ (Grew.refl _)
      have Hm := Lib.hid HLX.out
      clear HLX GC
      go_wp2_with fail
      refine (KS2.out _ HG.out HF.out).mono ?_
      rintro e wv2 ⟨vq, rfl, ho, gq⟩
      have GQ2 := Lib.hid gq
      obtain ⟨Az, cz, rfl⟩ := own_slice ho
      have Hz := Lib.hid (Rd.of_own ho)
      clear ho gq
      replace HG := Lib.hid (HG.out.trans GQ2.out)
      replace HTB := Lib.hid (fun W gg => HTB.out W (Grew.trans GQ2.out gg))
      replace HVB := Lib.hid (fun W gg => HVB.out W (Grew.trans GQ2.out gg))
      replace Hj := Lib.hid (Hj.out.mono GQ2.out)
      replace Hk := Lib.hid (Hk.out.mono GQ2.out)
      replace Hm := Lib.hid (Hm.out.mono GQ2.out)
      clear t0 t1
      obtain ⟨t0, t1⟩ := HTB.out _ (Grew.refl _)
      clear v0 v1 v2 v3
      obtain ⟨v0, v1, v2, v3⟩ := HVB.out _ (Grew.refl _)
      dsimp only
      go_wp2_with fail
      go_cut [17, 18] from 76 to 89 (fun s1 s2 wx => LvsCut wv2 ca ce s1 s2 wx)
      case first =>
        go_region_held3 (fun W => W.cell? ⟨w.heap.size, 0, none⟩ = some (.slice Ar t.roots.length cr) ∧ W.cell? ⟨w.heap.size, 1, none⟩ = some (.slice Ab t.brs.length cb) ∧ W.cell? ⟨w.heap.size + 1, 0, none⟩ = some (.int .i64 vu) ∧ W.cell? ⟨w.heap.size + 1, 1, none⟩ = some (.int .i64 ve) ∧ W.cell? ⟨w.heap.size + 1, 2, none⟩ = some (.string vl) ∧ W.cell? ⟨w.heap.size + 1, 3, none⟩ = some (.string vt) ∧ Grew wv2 W) (refine held6 wv2 _ t0 t1 v0 v1 v2 v3 (by repeat (with_reducible first | exact Grew.refl _ | exact GZ.out | exact GQ2.out | exact GQ1.out | refine Grew.drew ?_ | refine Grew.alloc ?_ _ | refine Grew.setCell ?_ (by first | exact Nat.le_refl _ | exact GZ.out.size | exact GQ2.out.size | exact GQ1.out.size | simp) _))) (first | (go_at_call 14; with_reducible refine (KCS.out _ (HG.out.trans (by repeat (with_reducible first | exact Grew.refl _ | refine Grew.drew ?_ | refine Grew.alloc ?_ _))) HF.out).mono ?_; rintro e wq1 ⟨A1, c1, rfl, h5, gq⟩; have GX := Lib.hid (show Grew wv2 wq1 from Grew.trans (by repeat (with_reducible first | exact Grew.refl _ | refine Grew.drew ?_ | refine Grew.alloc ?_ _)) gq); have GQ1 := Lib.hid (show Grew wv2 wq1 from GX.out); have HLS1_1 := Lib.hid h5; clear h5 gq GX) | (go_at_call 15; with_reducible refine (KCV.out _ (HG.out.trans (GQ1.out.trans (by repeat (with_reducible first | exact Grew.refl _ | refine Grew.drew ?_ | refine Grew.alloc ?_ _)))) HF.out).mono ?_; rintro e wq2 ⟨A2, c2, rfl, h5, gq⟩; have GX := Lib.hid (show Grew wq1 wq2 from Grew.trans (by repeat (with_reducible first | exact Grew.refl _ | refine Grew.drew ?_ | refine Grew.alloc ?_ _)) gq); have GQ2 := Lib.hid (show Grew wv2 wq2 from GQ1.out.trans GX.out); have HLS1_2 := Lib.hid (HLS1_1.out.mono GX.out); have HLS2_2 := Lib.hid h5; clear h5 gq GX) | (go_at_call 19; with_reducible refine (KC.out _ _ _ (HG.out.trans (GQ2.out.trans (by repeat (with_reducible first | exact Grew.refl _ | refine Grew.drew ?_ | refine Grew.alloc ?_ _)))) (HLS1_2.out.mono (by repeat (with_reducible first | exact Grew.refl _ | refine Grew.drew ?_ | refine Grew.alloc ?_ _))) (HLS2_2.out.mono (by repeat (with_reducible first | exact Grew.refl _ | refine Grew.drew ?_ | refine Grew.alloc ?_ _))) HF.out).mono ?_; rintro e wz ⟨vq, rfl, ho, gq⟩; have GZ := Lib.hid (show Grew wv2 wz from GQ2.out.trans (Grew.trans (by repeat (with_reducible first | exact Grew.refl _ | refine Grew.drew ?_ | refine Grew.alloc ?_ _)) gq)); obtain ⟨Aq, cq, rfl⟩ := own_slice ho; have HO := Lib.hid (Rd.of_own ho); clear ho gq))
        all_goals go_wp2_with fail
        all_goals go_meet
        all_goals exact lvsC HO.out GZ.out
      case rest =>
        obtain ⟨⟨Ax, cx, rfl⟩, rfl, HLX, GC⟩ := hcut
        replace HG := Lib.hid (HG.out.trans GC.out)
        replace HTB := Lib.hid (fun W gg => HTB.out W (Grew.trans GC.out gg))
        replace HVB := Lib.hid (fun W gg => HVB.out W (Grew.trans GC.out gg))
        replace Hj := Lib.hid (Hj.out.mono GC.out)
        replace Hk := Lib.hid (Hk.out.mono GC.out)
        replace Hm := Lib.hid (Hm.out.mono GC.out)
        replace Hz := Lib.hid (Hz.out.mono GC.out)
        clear t0 t1
        obtain ⟨t0, t1⟩ := HTB.out _ (Grew.refl _)
        clear v0 v1 v2 v3
        obtain ⟨v0, v1, v2, v3⟩ := HVB.out _ (Grew.refl _)
        have Hx := Lib.hid HLX.out
        clear HLX GC
        go_wp2_with fail
        refine (KC2.out _ HG.out HF.out).mono ?_
        rintro e wv3 ⟨vq, rfl, ho, gq⟩
        have GQ3 := Lib.hid gq
        obtain ⟨Ay, cy, rfl⟩ := own_slice ho
        have Hy := Lib.hid (Rd.of_own ho)
        clear ho gq
        replace HG := Lib.hid (HG.out.trans GQ3.out)
        replace HTB := Lib.hid (fun W gg => HTB.out W (Grew.trans GQ3.out gg))
        replace HVB := Lib.hid (fun W gg => HVB.out W (Grew.trans GQ3.out gg))
        replace Hj := Lib.hid (Hj.out.mono GQ3.out)
        replace Hk := Lib.hid (Hk.out.mono GQ3.out)
        replace Hm := Lib.hid (Hm.out.mono GQ3.out)
        replace Hz := Lib.hid (Hz.out.mono GQ3.out)
        replace Hx := Lib.hid (Hx.out.mono GQ3.out)
        clear t0 t1
        obtain ⟨t0, t1⟩ := HTB.out _ (Grew.refl _)
        clear v0 v1 v2 v3
        obtain ⟨v0, v1, v2, v3⟩ := HVB.out _ (Grew.refl _)
        dsimp only
        clear t0 t1 v0 v1 v2 v3
        go_wp2_with fail
        refine (refSame_any na na _ _ _ Hj.out Hk.out).mono ?_
        rintro e s0 ⟨rfl, g8⟩
        replace HG := Lib.hid (HG.out.trans g8)
        replace Hj := Lib.hid (Hj.out.mono g8)
        replace Hk := Lib.hid (Hk.out.mono g8)
        replace Hm := Lib.hid (Hm.out.mono g8)
        replace Hz := Lib.hid (Hz.out.mono g8)
        replace Hx := Lib.hid (Hx.out.mono g8)
        replace Hy := Lib.hid (Hy.out.mono g8)
        clear g8
        rw [decide_eq_true (rfl : na = na)]
        dsimp only
        go_wp2_with fail
        refine (refSame_any sa sa _ _ _ Hm.out Hz.out).mono ?_
        rintro e s1 ⟨rfl, g8⟩
        replace HG := Lib.hid (HG.out.trans g8)
        replace Hj := Lib.hid (Hj.out.mono g8)
        replace Hk := Lib.hid (Hk.out.mono g8)
        replace Hm := Lib.hid (Hm.out.mono g8)
        replace Hz := Lib.hid (Hz.out.mono g8)
        replace Hx := Lib.hid (Hx.out.mono g8)
        replace Hy := Lib.hid (Hy.out.mono g8)
        clear g8
        rw [decide_eq_true (rfl : sa = sa)]
        dsimp only
        go_wp2_with fail
        refine (refSame_any ca ca _ _ _ Hx.out Hy.out).mono ?_
        rintro e s2 ⟨rfl, g8⟩
        replace HG := Lib.hid (HG.out.trans g8)
        replace Hj := Lib.hid (Hj.out.mono g8)
        replace Hk := Lib.hid (Hk.out.mono g8)
        replace Hm := Lib.hid (Hm.out.mono g8)
        replace Hz := Lib.hid (Hz.out.mono g8)
        replace Hx := Lib.hid (Hx.out.mono g8)
        replace Hy := Lib.hid (Hy.out.mono g8)
        clear g8
        rw [decide_eq_true (rfl : ca = ca)]
        dsimp only
        go_wp2
        go_ret
        exact ⟨rfl, HG.out⟩
end Go.Proofs.YtjaknioojpgkiaaGreatDoor
