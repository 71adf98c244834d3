/- The law DescribeReads, walked, its awake given. The condition: the library's own variables hold what they must. -/
import Derived.Test.YtjaknioojpgkiaaGreatDoorQ32
import Derived.Test.YtjaknioojpgkiaaGreatDoorQ41
import Derived.Test.YtjaknioojpgkiaaGreatDoorQ47
import Derived.Test.YtjaknioojpgkiaaGreatDoorQ48
import Derived.Test.YtjaknioojpgkiaaGreatDoorQ3
namespace Go.Proofs.YtjaknioojpgkiaaGreatDoor
open Go.RowKit

theorem heldR (w1 W : World) {p0 p1 p2 p3 : Addr} {y0 y1 y2 y3 : Value} (a0 : w1.cell? p0 = some y0) (a1 : w1.cell? p1 = some y1) (a2 : w1.cell? p2 = some y2) (a3 : w1.cell? p3 = some y3) (g : Grew w1 W) :
    W.cell? p0 = some y0 ∧ W.cell? p1 = some y1 ∧ W.cell? p2 = some y2 ∧ W.cell? p3 = some y3 ∧ Grew w1 W := ⟨keep_cell g a0, keep_cell g a1, keep_cell g a2, keep_cell g a3, g⟩
set_option maxHeartbeats 16000000 in
set_option maxRecDepth 100000 in
theorem dreads_of (t u : Tr) (ls : List ByteArray) (vs es : List Val) (un : Int) (wt : ByteArray) (rv bv ru bu lv vv va : Value) (w : World) (hE : Env w) (hr : SlI w rv t.roots) (hb : SlBr w bv t.brs) (hl : SlS w lv ls) (hvv : SlV w vv vs) (hr2 : SlI w ru u.roots) (hb2 : SlBr w bu u.brs) (hva : SlV w va es) (hA : ∀ W, Grew w W → Calls Tryz.prog 10 #[] W fun e w' => e = .returned (.bool true) ∧ Grew W w') :
    Calls Tryz.prog 4 #[.agg #[rv, bv], .agg #[ru, bu], lv, vv, va, .int .i64 un, .string wt] w fun e w' => e = .returned (.bool true) ∧ Grew w w' := by
  have KA := Lib.hid hA
  have KW := Lib.hid (fun ms mv W (hW : Grew w W) (hm : SlS W mv ms) => fewLawD t ls vs ms rv bv lv vv mv W (hr.mono hW) (hb.mono hW) (hl.mono hW) (hvv.mono hW) hm)
  have KCS := Lib.hid (fun W (hW : Grew w W) (hf : FewI t ls vs) => clS ls lv W (hl.mono hW) hf.2.1)
  have KCV := Lib.hid (fun W (hW : Grew w W) (hf : FewI t ls vs) => clV vs vv W (hvv.mono hW) hf.2.2)
  have KW2 := Lib.hid (fun W (hW : Grew w W) => fewLawD u ls es [] ru bu lv va (.slice none 0 0) W (hr2.mono hW) (hb2.mono hW) (hl.mono hW) (hva.mono hW) (Rd.nil _ 1))
  have KD := Lib.hid (fun (hf2 : FewI u ls es) lv' vb' va' W (hW : Grew w W) (hl' : SlS W lv' ls) (hv' : SlV W vb' vs) (ha' : SlV W va' es) (hf : FewI t ls vs) => dDiffer t u ls vs es wt rv bv ru bu lv' vb' va' W (hE.mono hW) (hr.mono hW) (hb.mono hW) hf.1.br hf.1.rs (hr2.mono hW) (hb2.mono hW) hf2.1.br hf2.1.rs hl' hv' (by have := hf.2.2; omega) ha' (by have := hf2.2.2; omega))
  have KD2 := Lib.hid (fun (hf2 : FewI u ls es) W (hW : Grew w W) (hf : FewI t ls vs) => refDiffer29 t u ls vs es wt rv bv ru bu lv vv va W (hr.mono hW) (hb.mono hW) hf.1.br hf.1.rs hf.1.marks (hr2.mono hW) (hb2.mono hW) hf2.1.br hf2.1.rs hf2.1.marks (hl.mono hW) (hvv.mono hW) (hva.mono hW))
  have kP := fun lv' vv' W (hW : Grew w W) (hl' : SlS W lv' ls) (hv' : SlV W vv' vs) (hf : FewI t ls vs) => dPrint t ls vs un wt rv bv lv' vv' W (hE.mono hW) (hr.mono hW) (hb.mono hW) hf.1.br hf.1.rs hl' hv'
  have kP2 := fun W (hW : Grew w W) (hf : FewI t ls vs) => refPrint29 t ls vs un wt rv bv lv vv W (hr.mono hW) (hb.mono hW) hf.1.br hf.1.rs hf.1.marks (hl.mono hW) (hvv.mono hW)
  generalize printR t ls vs un wt = R at kP kP2
  obtain ⟨pb, pe⟩ := R
  dsimp only at kP kP2
  have KP := Lib.hid kP
  have KP2 := Lib.hid kP2
  have HES := Lib.hid hva
  clear kP kP2
  obtain ⟨Aw, cw, rfl, -⟩ := hva.open_
  obtain ⟨Ur, ur, rfl, -⟩ := hr2.open_
  obtain ⟨Ub, ub, rfl, -⟩ := hb2.open_
  clear hr2 hb2 hva
  obtain ⟨Av, cv, rfl, -⟩ := hvv.open_
  obtain ⟨Ar, cr, rfl, -⟩ := hr.open_
  obtain ⟨Ab, cb, rfl, -⟩ := hb.open_
  clear hE hr hb hl hvv hA
  go_enter Tryz.func4, Tryz.ntmps4
  go_wp2_with fail
  refine (KA.out _ (((Grew.refl w).alloc _).alloc _)).mono ?_
  rintro e wa ⟨rfl, ga⟩
  have t0 := new_cell (w := w) (((Grew.refl _).alloc _).trans ga) 0 _ rfl
  have t1 := new_cell (w := w) (((Grew.refl _).alloc _).trans ga) 1 _ rfl
  have v0 := new_cell ga 0 _ rfl
  have v1 := new_cell ga 1 _ rfl
  rw [World.size_alloc] at v0 v1
  have HTB := Lib.hid (show ∀ W, Grew wa W → W.cell? ⟨w.heap.size, 0, none⟩ = some (.slice Ar t.roots.length cr) ∧ W.cell? ⟨w.heap.size, 1, none⟩ = some (.slice Ab t.brs.length cb) from fun W g => ⟨keep_cell g t0, keep_cell g t1⟩)
  have HUB := Lib.hid (show ∀ W, Grew wa W → W.cell? ⟨w.heap.size + 1, 0, none⟩ = some (.slice Ur u.roots.length ur) ∧ W.cell? ⟨w.heap.size + 1, 1, none⟩ = some (.slice Ub u.brs.length ub) from fun W g => ⟨keep_cell g v0, keep_cell g v1⟩)
  have HG := Lib.hid ((((Grew.refl w).alloc _).alloc _).trans ga)
  replace HES := Lib.hid (HES.out.mono HG.out)
  clear ga
  dsimp only
  go_wp2_with fail
  refine (KW.out _ _ _ (HG.out.alloc _) (lit1S _ _)).mono ?_
  rintro e wb ⟨q, rfl, hq, gb⟩
  have HQ := Lib.hid hq
  have GB := Lib.hid (Grew.trans ((Grew.refl wa).alloc _) gb)
  clear hq gb
  replace HG := Lib.hid (HG.out.trans GB.out)
  replace HTB := Lib.hid (fun W gg => HTB.out W (Grew.trans GB.out gg))
  replace HUB := Lib.hid (fun W gg => HUB.out W (Grew.trans GB.out gg))
  replace HES := Lib.hid (HES.out.mono GB.out)
  clear t0 t1 v0 v1
  obtain ⟨t0, t1⟩ := HTB.out _ (Grew.refl _)
  obtain ⟨v0, v1⟩ := HUB.out _ (Grew.refl _)
  dsimp only
  cases q
  · clear HQ
    go_wp2_with fail
    refine (KA.out _ HG.out).mono ?_
    rintro e wz ⟨rfl, g3⟩
    have HG3 := Lib.hid (HG.out.trans g3)
    clear g3
    dsimp only
    go_wp2
    go_ret
    exact ⟨rfl, HG3.out⟩
  have HF := Lib.hid (HQ.out (by first | rfl | trivial))
  clear HQ
  go_wp2_with fail
  refine (KW2.out _ HG.out).mono ?_
  rintro e wd ⟨q, rfl, hq, gd⟩
  have HQ := Lib.hid hq
  have GD := Lib.hid gd
  clear hq gd
  replace HG := Lib.hid (HG.out.trans GD.out)
  replace HTB := Lib.hid (fun W gg => HTB.out W (Grew.trans GD.out gg))
  replace HUB := Lib.hid (fun W gg => HUB.out W (Grew.trans GD.out gg))
  replace HES := Lib.hid (HES.out.mono GD.out)
  clear t0 t1 v0 v1
  obtain ⟨t0, t1⟩ := HTB.out _ (Grew.refl _)
  obtain ⟨v0, v1⟩ := HUB.out _ (Grew.refl _)
  dsimp only
  cases q
  · clear HQ
    go_wp2_with fail
    refine (KA.out _ HG.out).mono ?_
    rintro e wz ⟨rfl, g3⟩
    have HG3 := Lib.hid (HG.out.trans g3)
    clear g3
    dsimp only
    go_wp2
    go_ret
    exact ⟨rfl, HG3.out⟩
  have hf2 := HQ.out (by first | rfl | trivial)
  have kD := KD.out hf2
  have kD2 := KD2.out hf2
  have HEL := Lib.hid hf2.2.2
  unfold RetNL at kD
  unfold RetDf at kD2
  generalize difR t u ls vs es wt = D at kD kD2
  obtain ⟨da, de⟩ := D
  dsimp only at kD kD2
  clear KD KD2 KW KW2
  have KD := Lib.hid kD
  have KD2 := Lib.hid kD2
  clear kD kD2 hf2 HQ
  go_wp2_with fail
  go_cut [15, 16] from 43 to 54 (fun s1 s2 wx => LisCut wd da de s1 s2 wx)
  case first =>
    go_region_held3 (fun W => W.cell? ⟨w.heap.size, 0, none⟩ = some (.slice Ar t.roots.length cr) ∧ W.cell? ⟨w.heap.size, 1, none⟩ = some (.slice Ab t.brs.length cb) ∧ W.cell? ⟨w.heap.size + 1, 0, none⟩ = some (.slice Ur u.roots.length ur) ∧ W.cell? ⟨w.heap.size + 1, 1, none⟩ = some (.slice Ub u.brs.length ub) ∧ Grew wd W) (refine heldR wd _ t0 t1 v0 v1 (by repeat (with_reducible first | exact Grew.refl _ | exact GZ.out | exact GQ3.out | exact GQ2.out | exact GQ1.out | refine Grew.drew ?_ | refine Grew.alloc ?_ _ | refine Grew.setCell ?_ (by first | exact Nat.le_refl _ | exact GZ.out.size | exact GQ3.out.size | exact GQ2.out.size | exact GQ1.out.size | simp) _))) (first | (go_at_call 14; with_reducible refine (KCS.out _ (HG.out.trans (by repeat (with_reducible first | exact Grew.refl _ | refine Grew.drew ?_ | refine Grew.alloc ?_ _))) HF.out).mono ?_; rintro e wq1 ⟨A1, c1, rfl, h5, gq⟩; have GX := Lib.hid (show Grew wd wq1 from Grew.trans (by repeat (with_reducible first | exact Grew.refl _ | refine Grew.drew ?_ | refine Grew.alloc ?_ _)) gq); have GQ1 := Lib.hid (show Grew wd wq1 from GX.out); have HLS1_1 := Lib.hid h5; clear h5 gq GX) | (go_at_call 15; with_reducible refine (KCV.out _ (HG.out.trans (GQ1.out.trans (by repeat (with_reducible first | exact Grew.refl _ | refine Grew.drew ?_ | refine Grew.alloc ?_ _)))) HF.out).mono ?_; rintro e wq2 ⟨A2, c2, rfl, h5, gq⟩; have GX := Lib.hid (show Grew wq1 wq2 from Grew.trans (by repeat (with_reducible first | exact Grew.refl _ | refine Grew.drew ?_ | refine Grew.alloc ?_ _)) gq); have GQ2 := Lib.hid (show Grew wd wq2 from GQ1.out.trans GX.out); have HLS1_2 := Lib.hid (HLS1_1.out.mono GX.out); have HLS2_2 := Lib.hid h5; clear h5 gq GX) | (go_at_call 15; with_reducible refine (clV _ _ _ (HES.out.mono (GQ2.out.trans (by repeat (with_reducible first | exact Grew.refl _ | refine Grew.drew ?_ | refine Grew.alloc ?_ _)))) HEL.out).mono ?_; rintro e wq3 ⟨A3, c3, rfl, h5, gq⟩; have GX := Lib.hid (show Grew wq2 wq3 from Grew.trans (by repeat (with_reducible first | exact Grew.refl _ | refine Grew.drew ?_ | refine Grew.alloc ?_ _)) gq); have GQ3 := Lib.hid (show Grew wd wq3 from GQ2.out.trans GX.out); have HLS1_3 := Lib.hid (HLS1_2.out.mono GX.out); have HLS2_3 := Lib.hid (HLS2_2.out.mono GX.out); have HLS3_3 := Lib.hid h5; clear h5 gq GX) | (go_at_call 22; with_reducible refine (KD.out _ _ _ _ (HG.out.trans (GQ3.out.trans (by repeat (with_reducible first | exact Grew.refl _ | refine Grew.drew ?_ | refine Grew.alloc ?_ _)))) (HLS1_3.out.mono (by repeat (with_reducible first | exact Grew.refl _ | refine Grew.drew ?_ | refine Grew.alloc ?_ _))) (HLS2_3.out.mono (by repeat (with_reducible first | exact Grew.refl _ | refine Grew.drew ?_ | refine Grew.alloc ?_ _))) (HLS3_3.out.mono (by repeat (with_reducible first | exact Grew.refl _ | refine Grew.drew ?_ | refine Grew.alloc ?_ _))) HF.out).mono ?_; rintro e wz ⟨vq, rfl, ho, gq⟩; have GZ := Lib.hid (show Grew wd wz from GQ3.out.trans (Grew.trans (by repeat (with_reducible first | exact Grew.refl _ | refine Grew.drew ?_ | refine Grew.alloc ?_ _)) gq)); obtain ⟨Aq, cq, rfl⟩ := own_slice ho; have HO := Lib.hid (Rd.of_own ho); clear ho gq))
    all_goals go_wp2_with fail
    all_goals go_meet
    all_goals exact lisC HO.out GZ.out
  case rest =>
    obtain ⟨⟨Ad, cd, rfl⟩, rfl, HLX, GC⟩ := hcut
    replace HG := Lib.hid (HG.out.trans GC.out)
    replace HTB := Lib.hid (fun W gg => HTB.out W (Grew.trans GC.out gg))
    replace HUB := Lib.hid (fun W gg => HUB.out W (Grew.trans GC.out gg))
    replace HES := Lib.hid (HES.out.mono GC.out)
    clear t0 t1 v0 v1
    obtain ⟨t0, t1⟩ := HTB.out _ (Grew.refl _)
    obtain ⟨v0, v1⟩ := HUB.out _ (Grew.refl _)
    have Hd := Lib.hid HLX.out
    clear HLX GC
    go_wp2_with fail
    refine (KD2.out _ HG.out HF.out).mono ?_
    rintro e wf ⟨vq, rfl, ho, gq⟩
    have GQ := Lib.hid gq
    obtain ⟨Ak, ck, rfl, -⟩ := SlI.open_ ho
    have Hk := Lib.hid ho
    clear ho gq
    replace HG := Lib.hid (HG.out.trans GQ.out)
    replace HTB := Lib.hid (fun W gg => HTB.out W (Grew.trans GQ.out gg))
    replace HUB := Lib.hid (fun W gg => HUB.out W (Grew.trans GQ.out gg))
    replace HES := Lib.hid (HES.out.mono GQ.out)
    replace Hd := Lib.hid (Hd.out.mono GQ.out)
    clear t0 t1 v0 v1
    obtain ⟨t0, t1⟩ := HTB.out _ (Grew.refl _)
    obtain ⟨v0, v1⟩ := HUB.out _ (Grew.refl _)
    dsimp only
    go_wp2_with fail
    go_cut [19, 20] from 66 to 75 (fun s1 s2 wx => s1 = .string pb ∧ s2 = .int .i64 pe ∧ Aside (Grew wf wx))
    case first =>
      go_region_held3 (fun W => W.cell? ⟨w.heap.size, 0, none⟩ = some (.slice Ar t.roots.length cr) ∧ W.cell? ⟨w.heap.size, 1, none⟩ = some (.slice Ab t.brs.length cb) ∧ W.cell? ⟨w.heap.size + 1, 0, none⟩ = some (.slice Ur u.roots.length ur) ∧ W.cell? ⟨w.heap.size + 1, 1, none⟩ = some (.slice Ub u.brs.length ub) ∧ Grew wf W) (refine heldR wf _ t0 t1 v0 v1 (by repeat (with_reducible first | exact Grew.refl _ | exact GZ.out | exact GQ2.out | exact GQ1.out | refine Grew.drew ?_ | refine Grew.alloc ?_ _ | refine Grew.setCell ?_ (by first | exact Nat.le_refl _ | exact GZ.out.size | exact GQ2.out.size | exact GQ1.out.size | simp) _))) (first | (go_at_call 14; with_reducible refine (KCS.out _ (HG.out.trans (by repeat (with_reducible first | exact Grew.refl _ | refine Grew.drew ?_ | refine Grew.alloc ?_ _))) HF.out).mono ?_; rintro e wq1 ⟨A1, c1, rfl, h5, gq⟩; have GX := Lib.hid (show Grew wf wq1 from Grew.trans (by repeat (with_reducible first | exact Grew.refl _ | refine Grew.drew ?_ | refine Grew.alloc ?_ _)) gq); have GQ1 := Lib.hid (show Grew wf wq1 from GX.out); have HLS1_1 := Lib.hid h5; clear h5 gq GX) | (go_at_call 15; with_reducible refine (KCV.out _ (HG.out.trans (GQ1.out.trans (by repeat (with_reducible first | exact Grew.refl _ | refine Grew.drew ?_ | refine Grew.alloc ?_ _)))) HF.out).mono ?_; rintro e wq2 ⟨A2, c2, rfl, h5, gq⟩; have GX := Lib.hid (show Grew wq1 wq2 from Grew.trans (by repeat (with_reducible first | exact Grew.refl _ | refine Grew.drew ?_ | refine Grew.alloc ?_ _)) gq); have GQ2 := Lib.hid (show Grew wf wq2 from GQ1.out.trans GX.out); have HLS1_2 := Lib.hid (HLS1_1.out.mono GX.out); have HLS2_2 := Lib.hid h5; clear h5 gq GX) | (go_at_call 24; with_reducible refine (KP.out _ _ _ (HG.out.trans (GQ2.out.trans (by repeat (with_reducible first | exact Grew.refl _ | refine Grew.drew ?_ | refine Grew.alloc ?_ _)))) (HLS1_2.out.mono (by repeat (with_reducible first | exact Grew.refl _ | refine Grew.drew ?_ | refine Grew.alloc ?_ _))) (HLS2_2.out.mono (by repeat (with_reducible first | exact Grew.refl _ | refine Grew.drew ?_ | refine Grew.alloc ?_ _))) HF.out).mono ?_; rintro e wz ⟨rfl, gq⟩; have GZ := Lib.hid (show Grew wf wz from GQ2.out.trans (Grew.trans (by repeat (with_reducible first | exact Grew.refl _ | refine Grew.drew ?_ | refine Grew.alloc ?_ _)) gq)); clear gq))
      all_goals go_wp2_with fail
      all_goals go_meet
      all_goals exact ⟨rfl, rfl, (show Aside _ from GZ.out)⟩
    case rest =>
      obtain ⟨rfl, rfl, GC⟩ := hcut
      replace HG := Lib.hid (HG.out.trans GC.out)
      replace HTB := Lib.hid (fun W gg => HTB.out W (Grew.trans GC.out gg))
      replace HUB := Lib.hid (fun W gg => HUB.out W (Grew.trans GC.out gg))
      replace HES := Lib.hid (HES.out.mono GC.out)
      replace Hd := Lib.hid (Hd.out.mono GC.out)
      replace Hk := Lib.hid (Hk.out.mono GC.out)
      clear t0 t1 v0 v1
      obtain ⟨t0, t1⟩ := HTB.out _ (Grew.refl _)
      obtain ⟨v0, v1⟩ := HUB.out _ (Grew.refl _)
      clear GC
      go_wp2_with fail
      refine (KP2.out _ HG.out HF.out).mono ?_
      rintro e wg ⟨rfl, gq⟩
      have GQ2 := Lib.hid gq
      clear gq
      replace HG := Lib.hid (HG.out.trans GQ2.out)
      replace HTB := Lib.hid (fun W gg => HTB.out W (Grew.trans GQ2.out gg))
      replace HUB := Lib.hid (fun W gg => HUB.out W (Grew.trans GQ2.out gg))
      replace HES := Lib.hid (HES.out.mono GQ2.out)
      replace Hd := Lib.hid (Hd.out.mono GQ2.out)
      replace Hk := Lib.hid (Hk.out.mono GQ2.out)
      clear t0 t1 v0 v1
      obtain ⟨t0, t1⟩ := HTB.out _ (Grew.refl _)
      obtain ⟨v0, v1⟩ := HUB.out _ (Grew.refl _)
      dsimp only
      have KEQ := Lib.hid (equalI da da _ _ _ Hd.out Hk.out)
      rw [decide_eq_true (rfl : da = da)] at KEQ
      clear t0 t1 v0 v1
      go_wp2_with fail
      refine KEQ.out.mono ?_
      rintro e w9 ⟨rfl, g9⟩
      have HGE := Lib.hid (HG.out.trans g9)
      clear g9 KEQ
      dsimp only
      go_wp2
      go_ret
      exact ⟨rfl, HGE.out⟩
end Go.Proofs.YtjaknioojpgkiaaGreatDoor
