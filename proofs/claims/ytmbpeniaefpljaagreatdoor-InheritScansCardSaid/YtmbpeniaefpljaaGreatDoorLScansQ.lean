/- The law InheritScans, walked, its awake given. The condition: the library's own variables hold what they must. -/
import Derived.Test.YtmbpeniaefpljaaGreatDoorQ37
import Derived.Test.YtmbpeniaefpljaaGreatDoorQ40
import Derived.Test.YtmbpeniaefpljaaGreatDoorQ41
import Derived.Test.YtmbpeniaefpljaaGreatDoorQ3
namespace Go.Proofs.YtmbpeniaefpljaaGreatDoor
open Go.RowKit

set_option maxHeartbeats 16000000 in
set_option maxRecDepth 100000 in
theorem scans_of (t : Tr) (ls : List ByteArray) (vs : List Val) (n : Int) (rv bv lv vv : Value) (w : World) (hE : Env w) (hr : SlI w rv t.roots) (hb : SlBr w bv t.brs) (hl : SlS w lv ls) (hvv : SlV w vv vs) (hA : ∀ W, Grew w W → Calls Tryz.prog 10 #[] W fun e w' => e = .returned (.bool true) ∧ Grew W w') :
    Calls Tryz.prog 5 #[.agg #[rv, bv], lv, vv, .int .i64 n] w fun e w' => e = .returned (.bool true) ∧ Grew w w' := by
  have KA := Lib.hid hA
  have KW := Lib.hid (fun ms mv W (hW : Grew w W) (hm : SlS W mv ms) => fewLawI t ls vs ms rv bv lv vv mv W (hr.mono hW) (hb.mono hW) (hl.mono hW) (hvv.mono hW) hm)
  have KCS := Lib.hid (fun W (hW : Grew w W) (hf : FewI t ls vs) => clS ls lv W (hl.mono hW) hf.2.1)
  have KCV := Lib.hid (fun W (hW : Grew w W) (hf : FewI t ls vs) => clV vs vv W (hvv.mono hW) hf.2.2)
  have kP := fun lv' vv' W (hW : Grew w W) (hl' : SlS W lv' ls) (hv' : SlV W vv' vs) (hf : FewI t ls vs) => iRedX t ls vs rv bv lv' vv' W (hE.mono hW) (hr.mono hW) (hb.mono hW) hf.1.br hf.1.rs hl' hv' (by have := hf.2.2; omega)
  have kR := fun W (hW : Grew w W) (hf : FewI t ls vs) => refRedX t ls vs rv bv lv vv W (hr.mono hW) (hb.mono hW) hf.1.br hf.1.rs hf.1.marks (hl.mono hW) (hvv.mono hW) (by have := hf.2.2; omega)
  have kQ := fun lv' vv' W (hW : Grew w W) (hl' : SlS W lv' ls) (hv' : SlV W vv' vs) (hf : FewI t ls vs) => iGapsX t ls vs n rv bv lv' vv' W (hE.mono hW) (hr.mono hW) (hb.mono hW) hf.1.br hf.1.rs hl' hv'
  have kS := fun W (hW : Grew w W) (hf : FewI t ls vs) => refGapsX t ls vs n rv bv lv vv W (hr.mono hW) (hb.mono hW) hf.1.br hf.1.rs hf.1.marks (hl.mono hW) (hvv.mono hW)
  unfold RetNL at kP kR
  unfold RetNL at kQ kS
  generalize redR t ls vs = R at kP kR
  generalize gapsR t ls vs n = Q at kQ kS
  obtain ⟨ra, re⟩ := R
  obtain ⟨qa, qe⟩ := Q
  dsimp only at kP kQ kR kS
  have KP := Lib.hid kP
  have KQ := Lib.hid kQ
  have KR := Lib.hid kR
  have KS := Lib.hid kS
  clear kP kQ kR kS
  obtain ⟨Ar, cr, rfl, -⟩ := hr.open_
  obtain ⟨Ab, cb, rfl, -⟩ := hb.open_
  clear hE hr hb hl hvv hA
  go_enter Tryz.func5, Tryz.ntmps5
  go_wp2_with fail
  refine (KA.out _ ((Grew.refl w).alloc _)).mono ?_
  rintro e wa ⟨rfl, ga⟩
  have t0 := new_cell ga 0 _ rfl
  have t1 := new_cell ga 1 _ rfl
  have HTB := Lib.hid (show ∀ W, Grew wa W → W.cell? ⟨w.heap.size, 0, none⟩ = some (.slice Ar t.roots.length cr) ∧ W.cell? ⟨w.heap.size, 1, none⟩ = some (.slice Ab t.brs.length cb) from fun W g => ⟨keep_cell g t0, keep_cell g t1⟩)
  have HG := Lib.hid (((Grew.refl w).alloc _).trans ga)
  clear ga
  dsimp only
  go_wp2_with fail
  refine (KW.out [] _ _ HG.out (Rd.nil _ 1)).mono ?_
  rintro e wb ⟨q, rfl, hq, gb⟩
  have HQ := Lib.hid hq
  have GB := Lib.hid gb
  clear hq gb
  replace HG := Lib.hid (HG.out.trans GB.out)
  replace HTB := Lib.hid (fun W gg => HTB.out W (Grew.trans GB.out gg))
  clear t0 t1
  obtain ⟨t0, t1⟩ := HTB.out _ (Grew.refl _)
  dsimp only
  cases q
  · clear HQ
    go_wp2_with fail
    refine (KA.out _ HG.out).mono ?_
    rintro e wz ⟨rfl, g3⟩
    have HG3 := Lib.hid (HG.out.trans g3)
    clear g3
    dsimp only
    go_wp2
    go_ret
    exact ⟨rfl, HG3.out⟩
  have HF := Lib.hid (HQ.out (by first | rfl | trivial))
  clear HQ
  go_wp2_with fail
  go_cut [9, 10] from 27 to 35 (fun s1 s2 wx => LisCut wb ra re s1 s2 wx)
  case first =>
    go_region_held3 (fun W => W.cell? ⟨w.heap.size, 0, none⟩ = some (.slice Ar t.roots.length cr) ∧ W.cell? ⟨w.heap.size, 1, none⟩ = some (.slice Ab t.brs.length cb) ∧ Grew wb W) (refine heldI wb _ t0 t1 (by repeat (with_reducible first | exact Grew.refl _ | exact GQ3.out | exact GQ2.out | exact GQ1.out | refine Grew.drew ?_ | refine Grew.alloc ?_ _ | refine Grew.setCell ?_ (by first | exact Nat.le_refl _ | exact GQ3.out.size | exact GQ2.out.size | exact GQ1.out.size | simp) _))) (first | (go_at_call 13; refine (KCS.out _ (HG.out.trans (by repeat (with_reducible first | exact Grew.refl _ | refine Grew.drew ?_ | refine Grew.alloc ?_ _))) HF.out).mono ?_; rintro e w5 ⟨A5, c5, rfl, h5, gq⟩; have GQ1 := Lib.hid (show Grew wb w5 from Grew.trans (by repeat (with_reducible first | exact Grew.refl _ | refine Grew.drew ?_ | refine Grew.alloc ?_ _)) gq); have HLS := Lib.hid h5; clear h5 gq) | (go_at_call 14; refine (KCV.out _ (HG.out.trans (GQ1.out.trans (by repeat (with_reducible first | exact Grew.refl _ | refine Grew.drew ?_ | refine Grew.alloc ?_ _)))) HF.out).mono ?_; rintro e w6 ⟨A6, c6, rfl, h6, gq⟩; have GX := Lib.hid (show Grew w5 w6 from Grew.trans (by repeat (with_reducible first | exact Grew.refl _ | refine Grew.drew ?_ | refine Grew.alloc ?_ _)) gq); have GQ2 := Lib.hid (GQ1.out.trans GX.out); have HLS2 := Lib.hid (HLS.out.mono GX.out); have HLV := Lib.hid h6; clear h6 gq GX) | (go_at_call 24; refine (KP.out _ _ _ (HG.out.trans (GQ2.out.trans (by repeat (with_reducible first | exact Grew.refl _ | refine Grew.drew ?_ | refine Grew.alloc ?_ _)))) (HLS2.out.mono (by repeat (with_reducible first | exact Grew.refl _ | refine Grew.drew ?_ | refine Grew.alloc ?_ _))) (HLV.out.mono (by repeat (with_reducible first | exact Grew.refl _ | refine Grew.drew ?_ | refine Grew.alloc ?_ _))) HF.out).mono ?_; rintro e w7 ⟨vq, rfl, ho, gq⟩; have GX := Lib.hid (show Grew w6 w7 from Grew.trans (by repeat (with_reducible first | exact Grew.refl _ | refine Grew.drew ?_ | refine Grew.alloc ?_ _)) gq); have GQ3 := Lib.hid (GQ2.out.trans GX.out); obtain ⟨Aq, cq, rfl⟩ := own_slice ho; have HO := Lib.hid (Rd.of_own ho); clear ho gq GX))
    all_goals go_wp2_with fail
    all_goals go_meet
    all_goals exact lisC HO.out GQ3.out
  case rest =>
    obtain ⟨⟨Aj, cj, rfl⟩, rfl, HLX, GC⟩ := hcut
    replace HG := Lib.hid (HG.out.trans GC.out)
    replace HTB := Lib.hid (fun W gg => HTB.out W (Grew.trans GC.out gg))
    clear t0 t1
    obtain ⟨t0, t1⟩ := HTB.out _ (Grew.refl _)
    have Hj := Lib.hid HLX.out
    clear HLX GC
    go_wp2_with fail
    refine (KR.out _ HG.out HF.out).mono ?_
    rintro e v1 ⟨vq, rfl, ho, gq⟩
    have GQ1 := Lib.hid gq
    obtain ⟨Ak, ck, rfl⟩ := own_slice ho
    have Hk := Lib.hid (Rd.of_own ho)
    clear ho gq
    replace HG := Lib.hid (HG.out.trans GQ1.out)
    replace HTB := Lib.hid (fun W gg => HTB.out W (Grew.trans GQ1.out gg))
    replace Hj := Lib.hid (Hj.out.mono GQ1.out)
    clear t0 t1
    obtain ⟨t0, t1⟩ := HTB.out _ (Grew.refl _)
    dsimp only
    go_wp2_with fail
    go_cut [13, 14] from 43 to 52 (fun s1 s2 wx => LisCut v1 qa qe s1 s2 wx)
    case first =>
      go_region_held3 (fun W => W.cell? ⟨w.heap.size, 0, none⟩ = some (.slice Ar t.roots.length cr) ∧ W.cell? ⟨w.heap.size, 1, none⟩ = some (.slice Ab t.brs.length cb) ∧ Grew v1 W) (refine heldI v1 _ t0 t1 (by repeat (with_reducible first | exact Grew.refl _ | exact GQ3.out | exact GQ2.out | exact GQ1.out | refine Grew.drew ?_ | refine Grew.alloc ?_ _ | refine Grew.setCell ?_ (by first | exact Nat.le_refl _ | exact GQ3.out.size | exact GQ2.out.size | exact GQ1.out.size | simp) _))) (first | (go_at_call 13; refine (KCS.out _ (HG.out.trans (by repeat (with_reducible first | exact Grew.refl _ | refine Grew.drew ?_ | refine Grew.alloc ?_ _))) HF.out).mono ?_; rintro e w5 ⟨A5, c5, rfl, h5, gq⟩; have GQ1 := Lib.hid (show Grew v1 w5 from Grew.trans (by repeat (with_reducible first | exact Grew.refl _ | refine Grew.drew ?_ | refine Grew.alloc ?_ _)) gq); have HLS := Lib.hid h5; clear h5 gq) | (go_at_call 14; refine (KCV.out _ (HG.out.trans (GQ1.out.trans (by repeat (with_reducible first | exact Grew.refl _ | refine Grew.drew ?_ | refine Grew.alloc ?_ _)))) HF.out).mono ?_; rintro e w6 ⟨A6, c6, rfl, h6, gq⟩; have GX := Lib.hid (show Grew w5 w6 from Grew.trans (by repeat (with_reducible first | exact Grew.refl _ | refine Grew.drew ?_ | refine Grew.alloc ?_ _)) gq); have GQ2 := Lib.hid (GQ1.out.trans GX.out); have HLS2 := Lib.hid (HLS.out.mono GX.out); have HLV := Lib.hid h6; clear h6 gq GX) | (go_at_call 26; refine (KQ.out _ _ _ (HG.out.trans (GQ2.out.trans (by repeat (with_reducible first | exact Grew.refl _ | refine Grew.drew ?_ | refine Grew.alloc ?_ _)))) (HLS2.out.mono (by repeat (with_reducible first | exact Grew.refl _ | refine Grew.drew ?_ | refine Grew.alloc ?_ _))) (HLV.out.mono (by repeat (with_reducible first | exact Grew.refl _ | refine Grew.drew ?_ | refine Grew.alloc ?_ _))) HF.out).mono ?_; rintro e w7 ⟨vq, rfl, ho, gq⟩; have GX := Lib.hid (show Grew w6 w7 from Grew.trans (by repeat (with_reducible first | exact Grew.refl _ | refine Grew.drew ?_ | refine Grew.alloc ?_ _)) gq); have GQ3 := Lib.hid (GQ2.out.trans GX.out); obtain ⟨Aq, cq, rfl⟩ := own_slice ho; have HO := Lib.hid (Rd.of_own ho); clear ho gq GX))
      all_goals go_wp2_with fail
      all_goals go_meet
      all_goals exact lisC HO.out GQ3.out
    case rest =>
      obtain ⟨⟨Am, cm, rfl⟩, rfl, HLX, GC⟩ := hcut
      replace HG := Lib.hid (HG.out.trans GC.out)
      replace HTB := Lib.hid (fun W gg => HTB.out W (Grew.trans GC.out gg))
      replace Hj := Lib.hid (Hj.out.mono GC.out)
      replace Hk := Lib.hid (Hk.out.mono GC.out)
      clear t0 t1
      obtain ⟨t0, t1⟩ := HTB.out _ (Grew.refl _)
      have Hm := Lib.hid HLX.out
      clear HLX GC
      go_wp2_with fail
      refine (KS.out _ HG.out HF.out).mono ?_
      rintro e v2 ⟨vq, rfl, ho, gq⟩
      have GQ2 := Lib.hid gq
      obtain ⟨Az, cz, rfl⟩ := own_slice ho
      have Hz := Lib.hid (Rd.of_own ho)
      clear ho gq
      replace HG := Lib.hid (HG.out.trans GQ2.out)
      replace HTB := Lib.hid (fun W gg => HTB.out W (Grew.trans GQ2.out gg))
      replace Hj := Lib.hid (Hj.out.mono GQ2.out)
      replace Hk := Lib.hid (Hk.out.mono GQ2.out)
      replace Hm := Lib.hid (Hm.out.mono GQ2.out)
      clear t0 t1
      obtain ⟨t0, t1⟩ := HTB.out _ (Grew.refl _)
      dsimp only
      clear t0 t1
      go_wp2_with fail
      refine (equalI ra ra _ _ _ Hj.out Hk.out).mono ?_
      rintro e w8 ⟨rfl, g8⟩
      replace HG := Lib.hid (HG.out.trans g8)
      replace Hm := Lib.hid (Hm.out.mono g8)
      replace Hz := Lib.hid (Hz.out.mono g8)
      clear g8
      dsimp only
      rw [decide_eq_true (rfl : ra = ra)]
      go_wp2_with fail
      refine (equalI qa qa _ _ _ Hm.out Hz.out).mono ?_
      rintro e w9 ⟨rfl, g9⟩
      replace HG := Lib.hid (HG.out.trans g9)
      clear g9
      dsimp only
      rw [decide_eq_true (rfl : qa = qa)]
      go_wp2
      go_ret
      exact ⟨rfl, HG.out⟩
end Go.Proofs.YtmbpeniaefpljaaGreatDoor
