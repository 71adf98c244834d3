/- The law InheritFinds, walked, its awake given. The condition: the library's own variables hold what they must. -/
import Derived.Test.YtmbpeniaefpljaaGreatDoorQ37
namespace Go.Proofs.YtmbpeniaefpljaaGreatDoor
open Go.RowKit

set_option maxHeartbeats 16000000 in
set_option maxRecDepth 100000 in
theorem finds_of (t : Tr) (ls : List ByteArray) (vs : List Val) (u n : Int) (lang : ByteArray) (rv bv lv vv : Value) (w : World) (hE : Env w) (hr : SlI w rv t.roots) (hb : SlBr w bv t.brs) (hl : SlS w lv ls) (hvv : SlV w vv vs) (hA : ∀ W, Grew w W → Calls Tryz.prog 10 #[] W fun e w' => e = .returned (.bool true) ∧ Grew W w') :
    Calls Tryz.prog 3 #[.agg #[rv, bv], lv, vv, .int .i64 u, .int .i64 n, .string lang] w fun e w' => e = .returned (.bool true) ∧ Grew w w' := by
  have KA := Lib.hid hA
  have KW := Lib.hid (fun ms mv W (hW : Grew w W) (hm : SlS W mv ms) => fewLawI t ls vs ms rv bv lv vv mv W (hr.mono hW) (hb.mono hW) (hl.mono hW) (hvv.mono hW) hm)
  have KCS := Lib.hid (fun W (hW : Grew w W) (hf : FewI t ls vs) => clS ls lv W (hl.mono hW) hf.2.1)
  have KCV := Lib.hid (fun W (hW : Grew w W) (hf : FewI t ls vs) => clV vs vv W (hvv.mono hW) hf.2.2)
  have kP := fun lv' vv' W (hW : Grew w W) (hl' : SlS W lv' ls) (hv' : SlV W vv' vs) (hf : FewI t ls vs) => iFoundX t ls vs u n lang rv bv lv' vv' W (hE.mono hW) (hr.mono hW) (hb.mono hW) hf.1.br hf.1.rs hl' hv'
  have kQ := fun lv' vv' W (hW : Grew w W) (hl' : SlS W lv' ls) (hv' : SlV W vv' vs) (hf : FewI t ls vs) => iEffX t ls vs u n lang rv bv lv' vv' W (hE.mono hW) (hr.mono hW) (hb.mono hW) hf.1.br hf.1.rs hl' hv'
  have kR := fun W (hW : Grew w W) (hf : FewI t ls vs) => refFoundX t ls vs u n lang rv bv lv vv W (hr.mono hW) (hb.mono hW) hf.1.br hf.1.rs hf.1.marks (hl.mono hW) (hvv.mono hW)
  have kS := fun W (hW : Grew w W) (hf : FewI t ls vs) => refEffX t ls vs u n lang rv bv lv vv W (hr.mono hW) (hb.mono hW) hf.1.br hf.1.rs hf.1.marks (hl.mono hW) (hvv.mono hW)
  unfold RetVE at kP kQ kR kS
  generalize foundR t ls vs u n lang = R at kP kR
  generalize effR t ls vs u n lang = Q at kQ kS
  obtain ⟨ro, re⟩ := R
  obtain ⟨qo, qe⟩ := Q
  dsimp only at kP kQ kR kS
  generalize ro.isSome = rs at kP kR
  generalize ro.getD val0 = x at kP kR
  generalize qo.isSome = qs at kQ kS
  generalize qo.getD val0 = y at kQ kS
  obtain ⟨xu, xe, xl, xt⟩ := x
  obtain ⟨yu, ye, yl, yt⟩ := y
  unfold Val.agg at kP kQ kR kS
  dsimp only at kP kQ kR kS
  have KP := Lib.hid kP
  have KQ := Lib.hid kQ
  have KR := Lib.hid kR
  have KS := Lib.hid kS
  clear kP kQ kR kS
  obtain ⟨Ar, cr, rfl, -⟩ := hr.open_
  obtain ⟨Ab, cb, rfl, -⟩ := hb.open_
  clear hE hr hb hl hvv hA
  go_enter Tryz.func3, Tryz.ntmps3
  go_wp2_with fail
  refine (KA.out _ ((Grew.refl w).alloc _)).mono ?_
  rintro e wa ⟨rfl, ga⟩
  have t0 := new_cell ga 0 _ rfl
  have t1 := new_cell ga 1 _ rfl
  have HTB := Lib.hid (show ∀ W, Grew wa W → W.cell? ⟨w.heap.size, 0, none⟩ = some (.slice Ar t.roots.length cr) ∧ W.cell? ⟨w.heap.size, 1, none⟩ = some (.slice Ab t.brs.length cb) from fun W g => ⟨keep_cell g t0, keep_cell g t1⟩)
  have HG := Lib.hid (((Grew.refl w).alloc _).trans ga)
  clear ga
  dsimp only
  go_wp2_with fail
  refine (KW.out _ _ _ (HG.out.alloc _) (lit1S _ _)).mono ?_
  rintro e wb ⟨q, rfl, hq, gb⟩
  have HQ := Lib.hid hq
  have GB := Lib.hid (Grew.trans ((Grew.refl wa).alloc _) gb)
  clear hq gb
  replace HG := Lib.hid (HG.out.trans GB.out)
  replace HTB := Lib.hid (fun W gg => HTB.out W (Grew.trans GB.out gg))
  clear t0 t1
  obtain ⟨t0, t1⟩ := HTB.out _ (Grew.refl _)
  dsimp only
  cases q
  · clear HQ
    go_wp2_with fail
    refine (KA.out _ HG.out).mono ?_
    rintro e wz ⟨rfl, g3⟩
    have HG3 := Lib.hid (HG.out.trans g3)
    clear g3
    dsimp only
    go_wp2
    go_ret
    exact ⟨rfl, HG3.out⟩
  have HF := Lib.hid (HQ.out (by first | rfl | trivial))
  clear HQ
  go_wp2_with fail
  go_cut [13, 14, 15] from 37 to 49 (fun s1 s2 s3 wx => ValCut3 wb xu xe xl xt rs re s1 s2 s3 wx)
  case first =>
    go_region_held3 (fun W => W.cell? ⟨w.heap.size, 0, none⟩ = some (.slice Ar t.roots.length cr) ∧ W.cell? ⟨w.heap.size, 1, none⟩ = some (.slice Ab t.brs.length cb) ∧ Grew wb W) (refine heldI wb _ t0 t1 (by repeat (with_reducible first | exact Grew.refl _ | exact GQ3.out | exact GQ2.out | exact GQ1.out | refine Grew.drew ?_ | refine Grew.alloc ?_ _ | refine Grew.setCell ?_ (by first | exact Nat.le_refl _ | exact GQ3.out.size | exact GQ2.out.size | exact GQ1.out.size | simp) _))) (first | (go_at_call 13; refine (KCS.out _ (HG.out.trans (by repeat (with_reducible first | exact Grew.refl _ | refine Grew.drew ?_ | refine Grew.alloc ?_ _))) HF.out).mono ?_; rintro e w5 ⟨A5, c5, rfl, h5, gq⟩; have GQ1 := Lib.hid (show Grew wb w5 from Grew.trans (by repeat (with_reducible first | exact Grew.refl _ | refine Grew.drew ?_ | refine Grew.alloc ?_ _)) gq); have HLS := Lib.hid h5; (try (have hdr : Grew (wb.alloc (.cells [.int .i64 0, .int .i64 0, .string ⟨#[]⟩, .string ⟨#[]⟩].toArray 31)).drew w5 := (by with_reducible exact gq); have BX := Lib.hid (heap_keepI (Grew.trans (Grew.refl _).drew hdr) (heap_newI wb (.cells [.int .i64 0, .int .i64 0, .string ⟨#[]⟩, .string ⟨#[]⟩].toArray 31))))); (try (have hdr : Grew (wb.alloc (.cells [.int .i64 0, .int .i64 0, .string ⟨#[]⟩, .string ⟨#[]⟩].toArray 31)) w5 := (by with_reducible exact gq); have BX := Lib.hid (heap_keepI hdr (heap_newI wb (.cells [.int .i64 0, .int .i64 0, .string ⟨#[]⟩, .string ⟨#[]⟩].toArray 31))))); clear h5 gq) | (go_at_call 14; refine (KCV.out _ (HG.out.trans (GQ1.out.trans (by repeat (with_reducible first | exact Grew.refl _ | refine Grew.drew ?_ | refine Grew.alloc ?_ _)))) HF.out).mono ?_; rintro e w6 ⟨A6, c6, rfl, h6, gq⟩; have GX := Lib.hid (show Grew w5 w6 from Grew.trans (by repeat (with_reducible first | exact Grew.refl _ | refine Grew.drew ?_ | refine Grew.alloc ?_ _)) gq); have GQ2 := Lib.hid (GQ1.out.trans GX.out); have HLS2 := Lib.hid (HLS.out.mono GX.out); have HLV := Lib.hid h6; (try have BX2 := Lib.hid (heap_keepI GX.out BX.out)); (try (have hdr : Grew (w5.alloc (.cells [.int .i64 0, .int .i64 0, .string ⟨#[]⟩, .string ⟨#[]⟩].toArray 31)).drew w6 := (by with_reducible exact gq); have BX2 := Lib.hid (heap_keepI (Grew.trans (Grew.refl _).drew hdr) (heap_newI w5 (.cells [.int .i64 0, .int .i64 0, .string ⟨#[]⟩, .string ⟨#[]⟩].toArray 31))))); (try (have hdr : Grew (w5.alloc (.cells [.int .i64 0, .int .i64 0, .string ⟨#[]⟩, .string ⟨#[]⟩].toArray 31)) w6 := (by with_reducible exact gq); have BX2 := Lib.hid (heap_keepI hdr (heap_newI w5 (.cells [.int .i64 0, .int .i64 0, .string ⟨#[]⟩, .string ⟨#[]⟩].toArray 31))))); clear h6 gq GX) | (go_at_call 12; refine (KP.out _ _ _ (HG.out.trans (GQ2.out.trans (by repeat (with_reducible first | exact Grew.refl _ | refine Grew.drew ?_ | refine Grew.alloc ?_ _)))) (HLS2.out.mono (by repeat (with_reducible first | exact Grew.refl _ | refine Grew.drew ?_ | refine Grew.alloc ?_ _))) (HLV.out.mono (by repeat (with_reducible first | exact Grew.refl _ | refine Grew.drew ?_ | refine Grew.alloc ?_ _))) HF.out).mono ?_; rintro e w7 ⟨rfl, gq⟩; have GX := Lib.hid (show Grew w6 w7 from Grew.trans (by repeat (with_reducible first | exact Grew.refl _ | refine Grew.drew ?_ | refine Grew.alloc ?_ _)) gq); have GQ3 := Lib.hid (GQ2.out.trans GX.out); (try have BX3 := Lib.hid (heap_keepI GX.out BX2.out)); (try (have hdr : Grew (w6.alloc (.cells [.int .i64 0, .int .i64 0, .string ⟨#[]⟩, .string ⟨#[]⟩].toArray 31)).drew w7 := (by with_reducible exact gq); have BX3 := Lib.hid (heap_keepI (Grew.trans (Grew.refl _).drew hdr) (heap_newI w6 (.cells [.int .i64 0, .int .i64 0, .string ⟨#[]⟩, .string ⟨#[]⟩].toArray 31))))); (try (have hdr : Grew (w6.alloc (.cells [.int .i64 0, .int .i64 0, .string ⟨#[]⟩, .string ⟨#[]⟩].toArray 31)) w7 := (by with_reducible exact gq); have BX3 := Lib.hid (heap_keepI hdr (heap_newI w6 (.cells [.int .i64 0, .int .i64 0, .string ⟨#[]⟩, .string ⟨#[]⟩].toArray 31))))); (try (have qq := four_cells BX3.out; obtain ⟨⟨q0, q1, q2, q3⟩, z0, z1, z2, z3⟩ := qq)); clear gq GX))
    all_goals go_wp2_with fail
    all_goals go_meet
    all_goals with_reducible first | exact val3 (val_meet2 GQ3.out) | exact val3 (val_meet q0 q1 q2 q3 (Nat.le_refl _) GQ3.out) | exact val3 (val_meet q0 q1 q2 q3 GQ1.out.size GQ3.out) | exact val3 (val_meet q0 q1 q2 q3 GQ2.out.size GQ3.out)
  case rest =>
    obtain ⟨⟨U1, rfl, rfl, u0, u1, u2, u3, GC⟩, rfl⟩ := hcut
    replace HG := Lib.hid (HG.out.trans GC.out)
    replace HTB := Lib.hid (fun W gg => HTB.out W (Grew.trans GC.out gg))
    clear t0 t1
    obtain ⟨t0, t1⟩ := HTB.out _ (Grew.refl _)
    have u0 := u0.out
    have u1 := u1.out
    have u2 := u2.out
    have u3 := u3.out
    have HX1 := Lib.hid (show ∀ W, Grew wc W → W.cell? ⟨U1, 0, none⟩ = some (.int .i64 xu) ∧ W.cell? ⟨U1, 1, none⟩ = some (.int .i64 xe) ∧ W.cell? ⟨U1, 2, none⟩ = some (.string xl) ∧ W.cell? ⟨U1, 3, none⟩ = some (.string xt) from fun W g => ⟨keep_cell g u0, keep_cell g u1, keep_cell g u2, keep_cell g u3⟩)
    clear u0 u1 u2 u3 GC
    go_wp2_with fail
    refine (KR.out _ HG.out HF.out).mono ?_
    rintro e v2 ⟨rfl, gq⟩
    have GQ2 := Lib.hid (gq.alloc (.cells #[.int .i64 xu, .int .i64 xe, .string xl, .string xt] 31))
    clear gq
    replace HG := Lib.hid (HG.out.trans GQ2.out)
    replace HTB := Lib.hid (fun W gg => HTB.out W (Grew.trans GQ2.out gg))
    replace HX1 := Lib.hid (fun W gg => HX1.out W (Grew.trans GQ2.out gg))
    clear t0 t1
    obtain ⟨t0, t1⟩ := HTB.out _ (Grew.refl _)
    have u0 := new_cell (Grew.refl (v2.alloc (.cells #[.int .i64 xu, .int .i64 xe, .string xl, .string xt] 31))) 0 _ rfl
    have u1 := new_cell (Grew.refl (v2.alloc (.cells #[.int .i64 xu, .int .i64 xe, .string xl, .string xt] 31))) 1 _ rfl
    have u2 := new_cell (Grew.refl (v2.alloc (.cells #[.int .i64 xu, .int .i64 xe, .string xl, .string xt] 31))) 2 _ rfl
    have u3 := new_cell (Grew.refl (v2.alloc (.cells #[.int .i64 xu, .int .i64 xe, .string xl, .string xt] 31))) 3 _ rfl
    have HX2 := Lib.hid (show ∀ W, Grew (v2.alloc (.cells #[.int .i64 xu, .int .i64 xe, .string xl, .string xt] 31)) W → W.cell? ⟨v2.heap.size, 0, none⟩ = some (.int .i64 xu) ∧ W.cell? ⟨v2.heap.size, 1, none⟩ = some (.int .i64 xe) ∧ W.cell? ⟨v2.heap.size, 2, none⟩ = some (.string xl) ∧ W.cell? ⟨v2.heap.size, 3, none⟩ = some (.string xt) from fun W g => ⟨keep_cell g u0, keep_cell g u1, keep_cell g u2, keep_cell g u3⟩)
    clear u0 u1 u2 u3 GQ2
    dsimp only
    go_wp2_with fail
    generalize v2.alloc (.cells #[.int .i64 xu, .int .i64 xe, .string xl, .string xt] 31) = y2 at HG HTB t0 t1 HX1 HX2 ⊢
    go_cut [19, 20, 21] from 61 to 73 (fun s1 s2 s3 wx => ValCut3 y2 yu ye yl yt qs qe s1 s2 s3 wx)
    case first =>
      go_region_held3 (fun W => W.cell? ⟨w.heap.size, 0, none⟩ = some (.slice Ar t.roots.length cr) ∧ W.cell? ⟨w.heap.size, 1, none⟩ = some (.slice Ab t.brs.length cb) ∧ Grew y2 W) (refine heldI y2 _ t0 t1 (by repeat (with_reducible first | exact Grew.refl _ | exact GQ3.out | exact GQ2.out | exact GQ1.out | refine Grew.drew ?_ | refine Grew.alloc ?_ _ | refine Grew.setCell ?_ (by first | exact Nat.le_refl _ | exact GQ3.out.size | exact GQ2.out.size | exact GQ1.out.size | simp) _))) (first | (go_at_call 13; refine (KCS.out _ (HG.out.trans (by repeat (with_reducible first | exact Grew.refl _ | refine Grew.drew ?_ | refine Grew.alloc ?_ _))) HF.out).mono ?_; rintro e w5 ⟨A5, c5, rfl, h5, gq⟩; have GQ1 := Lib.hid (show Grew y2 w5 from Grew.trans (by repeat (with_reducible first | exact Grew.refl _ | refine Grew.drew ?_ | refine Grew.alloc ?_ _)) gq); have HLS := Lib.hid h5; (try (have hdr : Grew (y2.alloc (.cells [.int .i64 0, .int .i64 0, .string ⟨#[]⟩, .string ⟨#[]⟩].toArray 31)).drew w5 := (by with_reducible exact gq); have BX := Lib.hid (heap_keepI (Grew.trans (Grew.refl _).drew hdr) (heap_newI y2 (.cells [.int .i64 0, .int .i64 0, .string ⟨#[]⟩, .string ⟨#[]⟩].toArray 31))))); (try (have hdr : Grew (y2.alloc (.cells [.int .i64 0, .int .i64 0, .string ⟨#[]⟩, .string ⟨#[]⟩].toArray 31)) w5 := (by with_reducible exact gq); have BX := Lib.hid (heap_keepI hdr (heap_newI y2 (.cells [.int .i64 0, .int .i64 0, .string ⟨#[]⟩, .string ⟨#[]⟩].toArray 31))))); clear h5 gq) | (go_at_call 14; refine (KCV.out _ (HG.out.trans (GQ1.out.trans (by repeat (with_reducible first | exact Grew.refl _ | refine Grew.drew ?_ | refine Grew.alloc ?_ _)))) HF.out).mono ?_; rintro e w6 ⟨A6, c6, rfl, h6, gq⟩; have GX := Lib.hid (show Grew w5 w6 from Grew.trans (by repeat (with_reducible first | exact Grew.refl _ | refine Grew.drew ?_ | refine Grew.alloc ?_ _)) gq); have GQ2 := Lib.hid (GQ1.out.trans GX.out); have HLS2 := Lib.hid (HLS.out.mono GX.out); have HLV := Lib.hid h6; (try have BX2 := Lib.hid (heap_keepI GX.out BX.out)); (try (have hdr : Grew (w5.alloc (.cells [.int .i64 0, .int .i64 0, .string ⟨#[]⟩, .string ⟨#[]⟩].toArray 31)).drew w6 := (by with_reducible exact gq); have BX2 := Lib.hid (heap_keepI (Grew.trans (Grew.refl _).drew hdr) (heap_newI w5 (.cells [.int .i64 0, .int .i64 0, .string ⟨#[]⟩, .string ⟨#[]⟩].toArray 31))))); (try (have hdr : Grew (w5.alloc (.cells [.int .i64 0, .int .i64 0, .string ⟨#[]⟩, .string ⟨#[]⟩].toArray 31)) w6 := (by with_reducible exact gq); have BX2 := Lib.hid (heap_keepI hdr (heap_newI w5 (.cells [.int .i64 0, .int .i64 0, .string ⟨#[]⟩, .string ⟨#[]⟩].toArray 31))))); clear h6 gq GX) | (go_at_call 16; refine (KQ.out _ _ _ (HG.out.trans (GQ2.out.trans (by repeat (with_reducible first | exact Grew.refl _ | refine Grew.drew ?_ | refine Grew.alloc ?_ _)))) (HLS2.out.mono (by repeat (with_reducible first | exact Grew.refl _ | refine Grew.drew ?_ | refine Grew.alloc ?_ _))) (HLV.out.mono (by repeat (with_reducible first | exact Grew.refl _ | refine Grew.drew ?_ | refine Grew.alloc ?_ _))) HF.out).mono ?_; rintro e w7 ⟨rfl, gq⟩; have GX := Lib.hid (show Grew w6 w7 from Grew.trans (by repeat (with_reducible first | exact Grew.refl _ | refine Grew.drew ?_ | refine Grew.alloc ?_ _)) gq); have GQ3 := Lib.hid (GQ2.out.trans GX.out); (try have BX3 := Lib.hid (heap_keepI GX.out BX2.out)); (try (have hdr : Grew (w6.alloc (.cells [.int .i64 0, .int .i64 0, .string ⟨#[]⟩, .string ⟨#[]⟩].toArray 31)).drew w7 := (by with_reducible exact gq); have BX3 := Lib.hid (heap_keepI (Grew.trans (Grew.refl _).drew hdr) (heap_newI w6 (.cells [.int .i64 0, .int .i64 0, .string ⟨#[]⟩, .string ⟨#[]⟩].toArray 31))))); (try (have hdr : Grew (w6.alloc (.cells [.int .i64 0, .int .i64 0, .string ⟨#[]⟩, .string ⟨#[]⟩].toArray 31)) w7 := (by with_reducible exact gq); have BX3 := Lib.hid (heap_keepI hdr (heap_newI w6 (.cells [.int .i64 0, .int .i64 0, .string ⟨#[]⟩, .string ⟨#[]⟩].toArray 31))))); (try (have qq := four_cells BX3.out; obtain ⟨⟨q0, q1, q2, q3⟩, z0, z1, z2, z3⟩ := qq)); clear gq GX))
      all_goals go_wp2_with fail
      all_goals go_meet
      all_goals with_reducible first | exact val3 (val_meet2 GQ3.out) | exact val3 (val_meet q0 q1 q2 q3 (Nat.le_refl _) GQ3.out) | exact val3 (val_meet q0 q1 q2 q3 GQ1.out.size GQ3.out) | exact val3 (val_meet q0 q1 q2 q3 GQ2.out.size GQ3.out)
    case rest =>
      obtain ⟨⟨U3, rfl, rfl, u0, u1, u2, u3, GC⟩, rfl⟩ := hcut
      replace HG := Lib.hid (HG.out.trans GC.out)
      replace HTB := Lib.hid (fun W gg => HTB.out W (Grew.trans GC.out gg))
      replace HX1 := Lib.hid (fun W gg => HX1.out W (Grew.trans GC.out gg))
      replace HX2 := Lib.hid (fun W gg => HX2.out W (Grew.trans GC.out gg))
      clear t0 t1
      obtain ⟨t0, t1⟩ := HTB.out _ (Grew.refl _)
      have u0 := u0.out
      have u1 := u1.out
      have u2 := u2.out
      have u3 := u3.out
      have HX3 := Lib.hid (show ∀ W, Grew wc W → W.cell? ⟨U3, 0, none⟩ = some (.int .i64 yu) ∧ W.cell? ⟨U3, 1, none⟩ = some (.int .i64 ye) ∧ W.cell? ⟨U3, 2, none⟩ = some (.string yl) ∧ W.cell? ⟨U3, 3, none⟩ = some (.string yt) from fun W g => ⟨keep_cell g u0, keep_cell g u1, keep_cell g u2, keep_cell g u3⟩)
      clear u0 u1 u2 u3 GC
      go_wp2_with fail
      refine (KS.out _ HG.out HF.out).mono ?_
      rintro e v4 ⟨rfl, gq⟩
      have GQ4 := Lib.hid (gq.alloc (.cells #[.int .i64 yu, .int .i64 ye, .string yl, .string yt] 31))
      clear gq
      replace HG := Lib.hid (HG.out.trans GQ4.out)
      replace HTB := Lib.hid (fun W gg => HTB.out W (Grew.trans GQ4.out gg))
      replace HX1 := Lib.hid (fun W gg => HX1.out W (Grew.trans GQ4.out gg))
      replace HX2 := Lib.hid (fun W gg => HX2.out W (Grew.trans GQ4.out gg))
      replace HX3 := Lib.hid (fun W gg => HX3.out W (Grew.trans GQ4.out gg))
      clear t0 t1
      obtain ⟨t0, t1⟩ := HTB.out _ (Grew.refl _)
      have u0 := new_cell (Grew.refl (v4.alloc (.cells #[.int .i64 yu, .int .i64 ye, .string yl, .string yt] 31))) 0 _ rfl
      have u1 := new_cell (Grew.refl (v4.alloc (.cells #[.int .i64 yu, .int .i64 ye, .string yl, .string yt] 31))) 1 _ rfl
      have u2 := new_cell (Grew.refl (v4.alloc (.cells #[.int .i64 yu, .int .i64 ye, .string yl, .string yt] 31))) 2 _ rfl
      have u3 := new_cell (Grew.refl (v4.alloc (.cells #[.int .i64 yu, .int .i64 ye, .string yl, .string yt] 31))) 3 _ rfl
      have HX4 := Lib.hid (show ∀ W, Grew (v4.alloc (.cells #[.int .i64 yu, .int .i64 ye, .string yl, .string yt] 31)) W → W.cell? ⟨v4.heap.size, 0, none⟩ = some (.int .i64 yu) ∧ W.cell? ⟨v4.heap.size, 1, none⟩ = some (.int .i64 ye) ∧ W.cell? ⟨v4.heap.size, 2, none⟩ = some (.string yl) ∧ W.cell? ⟨v4.heap.size, 3, none⟩ = some (.string yt) from fun W g => ⟨keep_cell g u0, keep_cell g u1, keep_cell g u2, keep_cell g u3⟩)
      clear u0 u1 u2 u3 GQ4
      dsimp only
      obtain ⟨b10, b11, b12, b13⟩ := HX1.out _ (Grew.refl _)
      obtain ⟨b20, b21, b22, b23⟩ := HX2.out _ (Grew.refl _)
      obtain ⟨b30, b31, b32, b33⟩ := HX3.out _ (Grew.refl _)
      obtain ⟨b40, b41, b42, b43⟩ := HX4.out _ (Grew.refl _)
      clear t0 t1
      go_wp2
      go_ret
      exact ⟨rfl, HG.out⟩
end Go.Proofs.YtmbpeniaefpljaaGreatDoor
