/- The law InheritWanted, walked, its awake given. The condition: the library's own variables hold what they must. -/
import Derived.Test.YtmbpeniaefpljaaGreatDoorQ37
namespace Go.Proofs.YtmbpeniaefpljaaGreatDoor
open Go.RowKit

set_option maxHeartbeats 16000000 in
set_option maxRecDepth 100000 in
theorem wanted_of (t : Tr) (ls : List ByteArray) (vs : List Val) (u n : Int) (lang : ByteArray) (rv bv lv vv : Value) (w : World) (hE : Env w) (hr : SlI w rv t.roots) (hb : SlBr w bv t.brs) (hl : SlS w lv ls) (hvv : SlV w vv vs) (hA : ∀ W, Grew w W → Calls Tryz.prog 10 #[] W fun e w' => e = .returned (.bool true) ∧ Grew W w') :
    Calls Tryz.prog 7 #[.agg #[rv, bv], lv, vv, .int .i64 u, .int .i64 n, .string lang] w fun e w' => e = .returned (.bool true) ∧ Grew w w' := by
  have KA := Lib.hid hA
  have KW := Lib.hid (fun ms mv W (hW : Grew w W) (hm : SlS W mv ms) => fewLawI t ls vs ms rv bv lv vv mv W (hr.mono hW) (hb.mono hW) (hl.mono hW) (hvv.mono hW) hm)
  have KCS := Lib.hid (fun W (hW : Grew w W) (hf : FewI t ls vs) => clS ls lv W (hl.mono hW) hf.2.1)
  have KCV := Lib.hid (fun W (hW : Grew w W) (hf : FewI t ls vs) => clV vs vv W (hvv.mono hW) hf.2.2)
  have kQ := fun lv' vv' W (hW : Grew w W) (hl' : SlS W lv' ls) (hv' : SlV W vv' vs) (hf : FewI t ls vs) => iEffX t ls vs u n lang rv bv lv' vv' W (hE.mono hW) (hr.mono hW) (hb.mono hW) hf.1.br hf.1.rs hl' hv'
  have kP := fun lg lv' vv' W (hW : Grew w W) (hl' : SlS W lv' ls) (hv' : SlV W vv' vs) (hf : FewI t ls vs) => iFoundX t ls vs u n lg rv bv lv' vv' W (hE.mono hW) (hr.mono hW) (hb.mono hW) hf.1.br hf.1.rs hl' hv'
  have kG := fun lv' vv' W (hW : Grew w W) (hl' : SlS W lv' ls) (hv' : SlV W vv' vs) (hf : FewI t ls vs) => iGapsX t ls vs n rv bv lv' vv' W (hE.mono hW) (hr.mono hW) (hb.mono hW) hf.1.br hf.1.rs hl' hv'
  obtain ⟨h1, h2⟩ := eff_two (t := t) (ls := ls) (vs := vs) (u := u) (n := n) (wt := lang)
  have HEF := Lib.hid (fun h => wa_eff (t := t) (ls := ls) (vs := vs) (u := u) (n := n) (wt := lang) h)
  have HFO := Lib.hid (fun h => wa_found (t := t) (ls := ls) (vs := vs) (u := u) (n := n) (wt := lang) h)
  have HEA := Lib.hid (fun h s hs => wa_each (t := t) (ls := ls) (vs := vs) (u := u) (n := n) (wt := lang) h (s := s) hs)
  have HGA := Lib.hid (fun h => wa_gaps (t := t) (ls := ls) (vs := vs) (u := u) (n := n) (wt := lang) h)
  have HOW := Lib.hid (fun h x hx => wa_own (t := t) (ls := ls) (vs := vs) (u := u) (n := n) (wt := lang) h (x := x) hx)
  have HSO := Lib.hid (fun h => wa_some (t := t) (ls := ls) (vs := vs) (u := u) (n := n) (wt := lang) h)
  have HGP := Lib.hid (fun h => wa_gap (t := t) (ls := ls) (vs := vs) (u := u) (n := n) (wt := lang) h)
  unfold RetVE at kQ
  generalize effR t ls vs u n lang = R at kQ h1 h2 HEF
  obtain ⟨ro, re⟩ := R
  dsimp only at kQ h1 h2
  have hnn : re ≠ 0 → ro.isSome = false ∧ ro.getD val0 = val0 := fun h => by rw [h2 (by rw [← h1]; exact h)]; exact ⟨rfl, rfl⟩
  have HAS := Lib.hid (fun h : re = 0 => (h1.symm.trans h : askI t ls vs u n lang = 0))
  have HRO := Lib.hid (show re = 0 → ro = effF t.brs ls vs u n lang from fun h => congrArg Prod.fst (HEF.out (h1.symm.trans h)))
  generalize hrs : ro.isSome = rs at kQ hnn
  generalize hx : ro.getD val0 = x at kQ hnn
  have HRX := Lib.hid (And.intro hrs hx)
  obtain ⟨xu, xe, xl, xt⟩ := x
  unfold Val.agg at kQ
  dsimp only at kQ
  have HNN := Lib.hid hnn
  have KQ := Lib.hid kQ
  have KP := Lib.hid kP
  have KG := Lib.hid kG
  clear kQ kP kG h1 h2 hnn hrs hx HEF
  obtain ⟨Al, cl, rfl, hlc, hc, hcr⟩ := hl.open_
  unfold maxLen at hc
  have HR := Lib.hid hcr
  have hl0 := hl
  clear hcr hl0
  obtain ⟨Ar, cr, rfl, -⟩ := hr.open_
  obtain ⟨Ab, cb, rfl, -⟩ := hb.open_
  clear hE hr hb hl hvv hA
  go_enter Tryz.func7, Tryz.ntmps7
  go_wp2_with fail
  refine (KA.out _ ((Grew.refl w).alloc _)).mono ?_
  rintro e wa ⟨rfl, ga⟩
  have t0 := new_cell ga 0 _ rfl
  have t1 := new_cell ga 1 _ rfl
  have HTB := Lib.hid (show ∀ W, Grew wa W → W.cell? ⟨w.heap.size, 0, none⟩ = some (.slice Ar t.roots.length cr) ∧ W.cell? ⟨w.heap.size, 1, none⟩ = some (.slice Ab t.brs.length cb) from fun W g => ⟨keep_cell g t0, keep_cell g t1⟩)
  have HG := Lib.hid (((Grew.refl w).alloc _).trans ga)
  clear ga
  dsimp only
  go_wp2_with fail
  refine (KW.out _ _ _ (HG.out.alloc _) (lit1S _ _)).mono ?_
  rintro e wb ⟨q, rfl, hq, gb⟩
  have HQ := Lib.hid hq
  have GB := Lib.hid (Grew.trans ((Grew.refl wa).alloc _) gb)
  clear hq gb
  replace HG := Lib.hid (HG.out.trans GB.out)
  replace HTB := Lib.hid (fun W gg => HTB.out W (Grew.trans GB.out gg))
  clear t0 t1
  obtain ⟨t0, t1⟩ := HTB.out _ (Grew.refl _)
  dsimp only
  cases q
  · clear HQ
    go_wp2_with fail
    refine (KA.out _ HG.out).mono ?_
    rintro e wz ⟨rfl, g3⟩
    have HG3 := Lib.hid (HG.out.trans g3)
    clear g3
    dsimp only
    go_wp2
    go_ret
    exact ⟨rfl, HG3.out⟩
  have HF := Lib.hid (HQ.out (by first | rfl | trivial))
  clear HQ
  go_wp2_with fail
  go_cut [13, 14, 15] from 39 to 51 (fun s1 s2 s3 wx => ValCut3 wb xu xe xl xt rs re s1 s2 s3 wx)
  case first =>
    go_region_held3 (fun W => W.cell? ⟨w.heap.size, 0, none⟩ = some (.slice Ar t.roots.length cr) ∧ W.cell? ⟨w.heap.size, 1, none⟩ = some (.slice Ab t.brs.length cb) ∧ Grew wb W) (refine heldI wb _ t0 t1 (by repeat (with_reducible first | exact Grew.refl _ | exact GQ3.out | exact GQ2.out | exact GQ1.out | refine Grew.drew ?_ | refine Grew.alloc ?_ _ | refine Grew.setCell ?_ (by first | exact Nat.le_refl _ | exact GQ3.out.size | exact GQ2.out.size | exact GQ1.out.size | simp) _))) (first | (go_at_call 13; refine (KCS.out _ (HG.out.trans (by repeat (with_reducible first | exact Grew.refl _ | refine Grew.drew ?_ | refine Grew.alloc ?_ _))) HF.out).mono ?_; rintro e w5 ⟨A5, c5, rfl, h5, gq⟩; have GQ1 := Lib.hid (show Grew wb w5 from Grew.trans (by repeat (with_reducible first | exact Grew.refl _ | refine Grew.drew ?_ | refine Grew.alloc ?_ _)) gq); have HLS := Lib.hid h5; (try (have hdr : Grew (wb.alloc (.cells [.int .i64 0, .int .i64 0, .string ⟨#[]⟩, .string ⟨#[]⟩].toArray 31)).drew w5 := (by with_reducible exact gq); have BX := Lib.hid (heap_keepI (Grew.trans (Grew.refl _).drew hdr) (heap_newI wb (.cells [.int .i64 0, .int .i64 0, .string ⟨#[]⟩, .string ⟨#[]⟩].toArray 31))))); (try (have hdr : Grew (wb.alloc (.cells [.int .i64 0, .int .i64 0, .string ⟨#[]⟩, .string ⟨#[]⟩].toArray 31)) w5 := (by with_reducible exact gq); have BX := Lib.hid (heap_keepI hdr (heap_newI wb (.cells [.int .i64 0, .int .i64 0, .string ⟨#[]⟩, .string ⟨#[]⟩].toArray 31))))); clear h5 gq) | (go_at_call 14; refine (KCV.out _ (HG.out.trans (GQ1.out.trans (by repeat (with_reducible first | exact Grew.refl _ | refine Grew.drew ?_ | refine Grew.alloc ?_ _)))) HF.out).mono ?_; rintro e w6 ⟨A6, c6, rfl, h6, gq⟩; have GX := Lib.hid (show Grew w5 w6 from Grew.trans (by repeat (with_reducible first | exact Grew.refl _ | refine Grew.drew ?_ | refine Grew.alloc ?_ _)) gq); have GQ2 := Lib.hid (GQ1.out.trans GX.out); have HLS2 := Lib.hid (HLS.out.mono GX.out); have HLV := Lib.hid h6; (try have BX2 := Lib.hid (heap_keepI GX.out BX.out)); (try (have hdr : Grew (w5.alloc (.cells [.int .i64 0, .int .i64 0, .string ⟨#[]⟩, .string ⟨#[]⟩].toArray 31)).drew w6 := (by with_reducible exact gq); have BX2 := Lib.hid (heap_keepI (Grew.trans (Grew.refl _).drew hdr) (heap_newI w5 (.cells [.int .i64 0, .int .i64 0, .string ⟨#[]⟩, .string ⟨#[]⟩].toArray 31))))); (try (have hdr : Grew (w5.alloc (.cells [.int .i64 0, .int .i64 0, .string ⟨#[]⟩, .string ⟨#[]⟩].toArray 31)) w6 := (by with_reducible exact gq); have BX2 := Lib.hid (heap_keepI hdr (heap_newI w5 (.cells [.int .i64 0, .int .i64 0, .string ⟨#[]⟩, .string ⟨#[]⟩].toArray 31))))); clear h6 gq GX) | (go_at_call 16; refine (KQ.out _ _ _ (HG.out.trans (GQ2.out.trans (by repeat (with_reducible first | exact Grew.refl _ | refine Grew.drew ?_ | refine Grew.alloc ?_ _)))) (HLS2.out.mono (by repeat (with_reducible first | exact Grew.refl _ | refine Grew.drew ?_ | refine Grew.alloc ?_ _))) (HLV.out.mono (by repeat (with_reducible first | exact Grew.refl _ | refine Grew.drew ?_ | refine Grew.alloc ?_ _))) HF.out).mono ?_; rintro e w7 ⟨rfl, gq⟩; have GX := Lib.hid (show Grew w6 w7 from Grew.trans (by repeat (with_reducible first | exact Grew.refl _ | refine Grew.drew ?_ | refine Grew.alloc ?_ _)) gq); have GQ3 := Lib.hid (GQ2.out.trans GX.out); (try have BX3 := Lib.hid (heap_keepI GX.out BX2.out)); (try (have hdr : Grew (w6.alloc (.cells [.int .i64 0, .int .i64 0, .string ⟨#[]⟩, .string ⟨#[]⟩].toArray 31)).drew w7 := (by with_reducible exact gq); have BX3 := Lib.hid (heap_keepI (Grew.trans (Grew.refl _).drew hdr) (heap_newI w6 (.cells [.int .i64 0, .int .i64 0, .string ⟨#[]⟩, .string ⟨#[]⟩].toArray 31))))); (try (have hdr : Grew (w6.alloc (.cells [.int .i64 0, .int .i64 0, .string ⟨#[]⟩, .string ⟨#[]⟩].toArray 31)) w7 := (by with_reducible exact gq); have BX3 := Lib.hid (heap_keepI hdr (heap_newI w6 (.cells [.int .i64 0, .int .i64 0, .string ⟨#[]⟩, .string ⟨#[]⟩].toArray 31))))); (try (have qq := four_cells BX3.out; obtain ⟨⟨q0, q1, q2, q3⟩, z0, z1, z2, z3⟩ := qq)); clear gq GX))
    all_goals go_wp2_with fail
    all_goals go_meet
    all_goals with_reducible first | exact val3 (val_meet2 GQ3.out) | exact val3 (val_meet q0 q1 q2 q3 (Nat.le_refl _) GQ3.out) | exact val3 (val_meet q0 q1 q2 q3 GQ1.out.size GQ3.out) | exact val3 (val_meet q0 q1 q2 q3 GQ2.out.size GQ3.out)
  case rest =>
    obtain ⟨⟨U1, rfl, rfl, u0, u1, u2, u3, GC⟩, rfl⟩ := hcut
    have GR1 := Lib.hid GC.out
    replace HG := Lib.hid (HG.out.trans GC.out)
    replace HTB := Lib.hid (fun W gg => HTB.out W (Grew.trans GC.out gg))
    clear t0 t1
    obtain ⟨t0, t1⟩ := HTB.out _ (Grew.refl _)
    have u0 := u0.out
    have u1 := u1.out
    have u2 := u2.out
    have u3 := u3.out
    have HX1 := Lib.hid (show ∀ W, Grew wc W → W.cell? ⟨U1, 0, none⟩ = some (.int .i64 xu) ∧ W.cell? ⟨U1, 1, none⟩ = some (.int .i64 xe) ∧ W.cell? ⟨U1, 2, none⟩ = some (.string xl) ∧ W.cell? ⟨U1, 3, none⟩ = some (.string xt) from fun W g => ⟨keep_cell g u0, keep_cell g u1, keep_cell g u2, keep_cell g u3⟩)
    clear u0 u1 u2 u3 GC
    by_cases hz : re = 0
    case neg =>
      have hb : (re != 0) = true := by simpa using hz
      obtain ⟨hq1, hq2⟩ := HNN.out hz
      subst hq1
      injection hq2 with i1 i2 i3 i4
      subst i1 i2 i3 i4
      obtain ⟨b10, b11, b12, b13⟩ := HX1.out _ (Grew.refl _)
      clear hz HNN HAS HRO HRX t0 t1
      go_wp2
      go_ret
      exact ⟨rfl, HG.out⟩
    subst hz
    have HASK := Lib.hid (HAS.out (by first | rfl | trivial))
    clear HAS HNN
    have kp := KP.out lang
    rw [HFO.out HASK.out] at kp
    have HOW2 := Lib.hid (HOW.out HASK.out)
    unfold RetVE at kp
    generalize foundF t.brs vs u n lang = po at kp HOW2
    dsimp only at kp
    have hown : po.isSome = true → rs = true ∧ po.getD val0 = ⟨xu, xe, xl, xt⟩ := fun h => by
        cases po with
        | none => cases h
        | some y =>
          have h3 := (HRO.out (by first | rfl | trivial)).trans (HOW2.out y rfl)
          obtain ⟨k1, k2⟩ := HRX.out
          rw [h3] at k1 k2
          exact ⟨k1.symm, k2⟩
    have kg := KG.out
    rw [HGA.out HASK.out] at kg
    unfold RetNL at kg
    dsimp only at kg
    have hgp := HGP.out HASK.out
    have hso := HSO.out HASK.out
    rw [← HRO.out (by first | rfl | trivial), HRX.out.1] at hgp hso
    generalize gapsF t ls vs n (ls.headD ⟨#[]⟩) = G at kg hgp
    have kea := fun s hs => HEA.out HASK.out s hs
    generalize po.isSome = ps at kp hown
    generalize po.getD val0 = y at kp hown
    obtain ⟨yu, ye, yl, yt⟩ := y
    unfold Val.agg at kp
    dsimp only at kp
    have KPW := Lib.hid kp
    have KGW := Lib.hid kg
    have HGP2 := Lib.hid hgp
    have HSO2 := Lib.hid hso
    have HOWN := Lib.hid hown
    have KEA := Lib.hid kea
    clear kp kg hgp hso hown kea HOW HOW2 HSO HGP HGA HFO HEA HRO HRX KG
    go_wp2_with fail
    go_cut [16, 17, 18] from 61 to 73 (fun s1 s2 s3 wx => ValCut3 wc yu ye yl yt ps 0 s1 s2 s3 wx)
    case first =>
      go_region_held3 (fun W => W.cell? ⟨w.heap.size, 0, none⟩ = some (.slice Ar t.roots.length cr) ∧ W.cell? ⟨w.heap.size, 1, none⟩ = some (.slice Ab t.brs.length cb) ∧ Grew wc W) (refine heldI wc _ t0 t1 (by repeat (with_reducible first | exact Grew.refl _ | exact GQ3.out | exact GQ2.out | exact GQ1.out | refine Grew.drew ?_ | refine Grew.alloc ?_ _ | refine Grew.setCell ?_ (by first | exact Nat.le_refl _ | exact GQ3.out.size | exact GQ2.out.size | exact GQ1.out.size | simp) _))) (first | (go_at_call 13; refine (KCS.out _ (HG.out.trans (by repeat (with_reducible first | exact Grew.refl _ | refine Grew.drew ?_ | refine Grew.alloc ?_ _))) HF.out).mono ?_; rintro e w5 ⟨A5, c5, rfl, h5, gq⟩; have GQ1 := Lib.hid (show Grew wc w5 from Grew.trans (by repeat (with_reducible first | exact Grew.refl _ | refine Grew.drew ?_ | refine Grew.alloc ?_ _)) gq); have HLS := Lib.hid h5; (try (have hdr : Grew (wc.alloc (.cells [.int .i64 0, .int .i64 0, .string ⟨#[]⟩, .string ⟨#[]⟩].toArray 31)).drew w5 := (by with_reducible exact gq); have BX := Lib.hid (heap_keepI (Grew.trans (Grew.refl _).drew hdr) (heap_newI wc (.cells [.int .i64 0, .int .i64 0, .string ⟨#[]⟩, .string ⟨#[]⟩].toArray 31))))); (try (have hdr : Grew (wc.alloc (.cells [.int .i64 0, .int .i64 0, .string ⟨#[]⟩, .string ⟨#[]⟩].toArray 31)) w5 := (by with_reducible exact gq); have BX := Lib.hid (heap_keepI hdr (heap_newI wc (.cells [.int .i64 0, .int .i64 0, .string ⟨#[]⟩, .string ⟨#[]⟩].toArray 31))))); clear h5 gq) | (go_at_call 14; refine (KCV.out _ (HG.out.trans (GQ1.out.trans (by repeat (with_reducible first | exact Grew.refl _ | refine Grew.drew ?_ | refine Grew.alloc ?_ _)))) HF.out).mono ?_; rintro e w6 ⟨A6, c6, rfl, h6, gq⟩; have GX := Lib.hid (show Grew w5 w6 from Grew.trans (by repeat (with_reducible first | exact Grew.refl _ | refine Grew.drew ?_ | refine Grew.alloc ?_ _)) gq); have GQ2 := Lib.hid (GQ1.out.trans GX.out); have HLS2 := Lib.hid (HLS.out.mono GX.out); have HLV := Lib.hid h6; (try have BX2 := Lib.hid (heap_keepI GX.out BX.out)); (try (have hdr : Grew (w5.alloc (.cells [.int .i64 0, .int .i64 0, .string ⟨#[]⟩, .string ⟨#[]⟩].toArray 31)).drew w6 := (by with_reducible exact gq); have BX2 := Lib.hid (heap_keepI (Grew.trans (Grew.refl _).drew hdr) (heap_newI w5 (.cells [.int .i64 0, .int .i64 0, .string ⟨#[]⟩, .string ⟨#[]⟩].toArray 31))))); (try (have hdr : Grew (w5.alloc (.cells [.int .i64 0, .int .i64 0, .string ⟨#[]⟩, .string ⟨#[]⟩].toArray 31)) w6 := (by with_reducible exact gq); have BX2 := Lib.hid (heap_keepI hdr (heap_newI w5 (.cells [.int .i64 0, .int .i64 0, .string ⟨#[]⟩, .string ⟨#[]⟩].toArray 31))))); clear h6 gq GX) | (go_at_call 12; refine (KPW.out _ _ _ (HG.out.trans (GQ2.out.trans (by repeat (with_reducible first | exact Grew.refl _ | refine Grew.drew ?_ | refine Grew.alloc ?_ _)))) (HLS2.out.mono (by repeat (with_reducible first | exact Grew.refl _ | refine Grew.drew ?_ | refine Grew.alloc ?_ _))) (HLV.out.mono (by repeat (with_reducible first | exact Grew.refl _ | refine Grew.drew ?_ | refine Grew.alloc ?_ _))) HF.out).mono ?_; rintro e w7 ⟨rfl, gq⟩; have GX := Lib.hid (show Grew w6 w7 from Grew.trans (by repeat (with_reducible first | exact Grew.refl _ | refine Grew.drew ?_ | refine Grew.alloc ?_ _)) gq); have GQ3 := Lib.hid (GQ2.out.trans GX.out); (try have BX3 := Lib.hid (heap_keepI GX.out BX2.out)); (try (have hdr : Grew (w6.alloc (.cells [.int .i64 0, .int .i64 0, .string ⟨#[]⟩, .string ⟨#[]⟩].toArray 31)).drew w7 := (by with_reducible exact gq); have BX3 := Lib.hid (heap_keepI (Grew.trans (Grew.refl _).drew hdr) (heap_newI w6 (.cells [.int .i64 0, .int .i64 0, .string ⟨#[]⟩, .string ⟨#[]⟩].toArray 31))))); (try (have hdr : Grew (w6.alloc (.cells [.int .i64 0, .int .i64 0, .string ⟨#[]⟩, .string ⟨#[]⟩].toArray 31)) w7 := (by with_reducible exact gq); have BX3 := Lib.hid (heap_keepI hdr (heap_newI w6 (.cells [.int .i64 0, .int .i64 0, .string ⟨#[]⟩, .string ⟨#[]⟩].toArray 31))))); (try (have qq := four_cells BX3.out; obtain ⟨⟨q0, q1, q2, q3⟩, z0, z1, z2, z3⟩ := qq)); clear gq GX))
      all_goals go_wp2_with fail
      all_goals go_meet
      all_goals with_reducible first | exact val3 (val_meet2 GQ3.out) | exact val3 (val_meet q0 q1 q2 q3 (Nat.le_refl _) GQ3.out) | exact val3 (val_meet q0 q1 q2 q3 GQ1.out.size GQ3.out) | exact val3 (val_meet q0 q1 q2 q3 GQ2.out.size GQ3.out)
    case rest =>
      obtain ⟨⟨U2, rfl, rfl, u0, u1, u2, u3, GC⟩, rfl⟩ := hcut
      have GR2 := Lib.hid GC.out
      replace HG := Lib.hid (HG.out.trans GC.out)
      replace HTB := Lib.hid (fun W gg => HTB.out W (Grew.trans GC.out gg))
      replace HX1 := Lib.hid (fun W gg => HX1.out W (Grew.trans GC.out gg))
      clear t0 t1
      obtain ⟨t0, t1⟩ := HTB.out _ (Grew.refl _)
      have u0 := u0.out
      have u1 := u1.out
      have u2 := u2.out
      have u3 := u3.out
      have HX2 := Lib.hid (show ∀ W, Grew wc W → W.cell? ⟨U2, 0, none⟩ = some (.int .i64 yu) ∧ W.cell? ⟨U2, 1, none⟩ = some (.int .i64 ye) ∧ W.cell? ⟨U2, 2, none⟩ = some (.string yl) ∧ W.cell? ⟨U2, 3, none⟩ = some (.string yt) from fun W g => ⟨keep_cell g u0, keep_cell g u1, keep_cell g u2, keep_cell g u3⟩)
      clear u0 u1 u2 u3 GC
      go_wp2_with fail
      go_cut [19, 20] from 74 to 83 (fun s1 s2 wx => LisCut wc G 0 s1 s2 wx)
      case first =>
        go_region_held3 (fun W => W.cell? ⟨w.heap.size, 0, none⟩ = some (.slice Ar t.roots.length cr) ∧ W.cell? ⟨w.heap.size, 1, none⟩ = some (.slice Ab t.brs.length cb) ∧ Grew wc W) (refine heldI wc _ t0 t1 (by repeat (with_reducible first | exact Grew.refl _ | exact GQ3.out | exact GQ2.out | exact GQ1.out | refine Grew.drew ?_ | refine Grew.alloc ?_ _ | refine Grew.setCell ?_ (by first | exact Nat.le_refl _ | exact GQ3.out.size | exact GQ2.out.size | exact GQ1.out.size | simp) _))) (first | (go_at_call 13; refine (KCS.out _ (HG.out.trans (by repeat (with_reducible first | exact Grew.refl _ | refine Grew.drew ?_ | refine Grew.alloc ?_ _))) HF.out).mono ?_; rintro e w5 ⟨A5, c5, rfl, h5, gq⟩; have GQ1 := Lib.hid (show Grew wc w5 from Grew.trans (by repeat (with_reducible first | exact Grew.refl _ | refine Grew.drew ?_ | refine Grew.alloc ?_ _)) gq); have HLS := Lib.hid h5; clear h5 gq) | (go_at_call 14; refine (KCV.out _ (HG.out.trans (GQ1.out.trans (by repeat (with_reducible first | exact Grew.refl _ | refine Grew.drew ?_ | refine Grew.alloc ?_ _)))) HF.out).mono ?_; rintro e w6 ⟨A6, c6, rfl, h6, gq⟩; have GX := Lib.hid (show Grew w5 w6 from Grew.trans (by repeat (with_reducible first | exact Grew.refl _ | refine Grew.drew ?_ | refine Grew.alloc ?_ _)) gq); have GQ2 := Lib.hid (GQ1.out.trans GX.out); have HLS2 := Lib.hid (HLS.out.mono GX.out); have HLV := Lib.hid h6; clear h6 gq GX) | (go_at_call 26; refine (KGW.out _ _ _ (HG.out.trans (GQ2.out.trans (by repeat (with_reducible first | exact Grew.refl _ | refine Grew.drew ?_ | refine Grew.alloc ?_ _)))) (HLS2.out.mono (by repeat (with_reducible first | exact Grew.refl _ | refine Grew.drew ?_ | refine Grew.alloc ?_ _))) (HLV.out.mono (by repeat (with_reducible first | exact Grew.refl _ | refine Grew.drew ?_ | refine Grew.alloc ?_ _))) HF.out).mono ?_; rintro e w7 ⟨vq, rfl, ho, gq⟩; have GX := Lib.hid (show Grew w6 w7 from Grew.trans (by repeat (with_reducible first | exact Grew.refl _ | refine Grew.drew ?_ | refine Grew.alloc ?_ _)) gq); have GQ3 := Lib.hid (GQ2.out.trans GX.out); obtain ⟨Aq, cq, rfl⟩ := own_slice ho; have HO := Lib.hid (Rd.of_own ho); clear ho gq GX))
        all_goals go_wp2_with fail
        all_goals go_meet
        all_goals exact lisC HO.out GQ3.out
      case rest =>
        obtain ⟨⟨AGp, cGp, rfl⟩, rfl, HLX, GC⟩ := hcut
        replace HG := Lib.hid (HG.out.trans GC.out)
        replace HTB := Lib.hid (fun W gg => HTB.out W (Grew.trans GC.out gg))
        replace HX1 := Lib.hid (fun W gg => HX1.out W (Grew.trans GC.out gg))
        replace HX2 := Lib.hid (fun W gg => HX2.out W (Grew.trans GC.out gg))
        clear t0 t1
        obtain ⟨t0, t1⟩ := HTB.out _ (Grew.refl _)
        have HGp := Lib.hid HLX.out
        clear HLX GC
        go_wp2_with fail
        refine (containsI G u _ _ HGp.out).mono ?_
        rintro e w8 ⟨rfl, rfl⟩
        have hgp := HGP2.out
        rw [hgp]
        have hne : (rs == !rs) = false := by cases rs <;> rfl
        obtain ⟨b10, b11, b12, b13⟩ := HX1.out _ (Grew.refl _)
        obtain ⟨b20, b21, b22, b23⟩ := HX2.out _ (Grew.refl _)
        clear t0 t1 hgp HGP2 KGW KPW
        obtain ⟨F, hF⟩ : ∃ F : ByteArray → Bool, F = fun s => (foundF t.brs vs u n s).isSome := ⟨_, rfl⟩
        have hso := HSO2.out
        rw [← hF] at hso
        have HSO3 := Lib.hid hso
        have HFF := Lib.hid (show ∀ s, (foundF t.brs vs u n s).isSome = F s from fun s => by rw [hF])
        clear hso hF HSO2
        dsimp only
        cases ps with
        | true =>
          obtain ⟨rfl, hxy⟩ := HOWN.out (by first | rfl | trivial)
          injection hxy with i1 i2 i3 i4
          subst i1 i2 i3 i4
          clear HOWN
          go_wp2_with fail
          go_loopg [21, 107] ls.length (fun gg s21 s107 wr => ∃ (k : Nat) (acc : Bool), k ≤ ls.length ∧ ls.length - k ≤ gg ∧ s107 = .int .i64 (k : Int) ∧ s21 = .bool acc ∧ Aside (acc = (ls.take k).any F) ∧ Aside (Grew wc wr))
          case atStart => exact ⟨0, false, by omega, by omega, rfl, rfl, (show Aside _ from (show false = (ls.take 0).any F by simp)), (show Aside _ from Grew.refl _)⟩
          case round =>
            obtain ⟨k, acc, hk, hgk, rfl, rfl, HAC, GW⟩ := hrel
            clear b10 b11 b12 b13 b20 b21 b22 b23
            obtain ⟨t0, t1⟩ := HTB.out _ (Grew.refl _)
            replace HG := Lib.hid (HG.out.trans GW.out)
            replace HTB := Lib.hid (fun W gg => HTB.out W (Grew.trans GW.out gg))
            replace HX1 := Lib.hid (fun W gg => HX1.out W (Grew.trans GW.out gg))
            replace HX2 := Lib.hid (fun W gg => HX2.out W (Grew.trans GW.out gg))
            replace HGp := Lib.hid (HGp.out.mono GW.out)
            clear t0 t1
            obtain ⟨t0, t1⟩ := HTB.out _ (Grew.refl _)
            by_cases hlt : k < ls.length
            · have hltz : (k : Int) < (ls.length : Int) := by omega
              have h0z : (0 : Int) ≤ (k : Int) := by omega
              obtain ⟨bb, off, rfl, hbb, hcell⟩ := HR.out (by omega)
              have c0 := hcell wr HG.out k hlt
              have hta := take_any ls F k hlt
              rw [← HAC.out] at hta
              have kp := KP.out ls[k]
              rw [KEA.out ls[k] (List.getElem_mem hlt)] at kp
              rw [← HFF.out ls[k]] at hta
              unfold RetVE at kp
              dsimp only at kp
              clear hcell HAC
              generalize foundF t.brs vs u n ls[k] = fo at kp hta
              generalize ls[k] = y at c0 kp
              generalize fo.isSome = hs at kp hta
              generalize fo.getD val0 = z at kp
              obtain ⟨zu, ze, zl, zt⟩ := z
              unfold Val.agg at kp
              dsimp only at kp
              have KPZ := Lib.hid kp
              have HTA := Lib.hid hta
              clear kp hta
              go_wp2_with fail
              go_cut [24, 25, 26] from 111 to 123 (fun s1 s2 s3 wx => ValCut3 wr zu ze zl zt hs 0 s1 s2 s3 wx)
              case first =>
                go_region_held3 (fun W => W.cell? ⟨w.heap.size, 0, none⟩ = some (.slice Ar t.roots.length cr) ∧ W.cell? ⟨w.heap.size, 1, none⟩ = some (.slice Ab t.brs.length cb) ∧ Grew wr W) (refine heldI wr _ t0 t1 (by repeat (with_reducible first | exact Grew.refl _ | exact GQ3.out | exact GQ2.out | exact GQ1.out | refine Grew.drew ?_ | refine Grew.alloc ?_ _ | refine Grew.setCell ?_ (by first | exact Nat.le_refl _ | exact GQ3.out.size | exact GQ2.out.size | exact GQ1.out.size | simp) _))) (first | (go_at_call 13; refine (KCS.out _ (HG.out.trans (by repeat (with_reducible first | exact Grew.refl _ | refine Grew.drew ?_ | refine Grew.alloc ?_ _))) HF.out).mono ?_; rintro e w5 ⟨A5, c5, rfl, h5, gq⟩; have GQ1 := Lib.hid (show Grew wr w5 from Grew.trans (by repeat (with_reducible first | exact Grew.refl _ | refine Grew.drew ?_ | refine Grew.alloc ?_ _)) gq); have HLS := Lib.hid h5; (try (have hdr : Grew (wr.alloc (.cells [.int .i64 0, .int .i64 0, .string ⟨#[]⟩, .string ⟨#[]⟩].toArray 31)).drew w5 := (by with_reducible exact gq); have BX := Lib.hid (heap_keepI (Grew.trans (Grew.refl _).drew hdr) (heap_newI wr (.cells [.int .i64 0, .int .i64 0, .string ⟨#[]⟩, .string ⟨#[]⟩].toArray 31))))); (try (have hdr : Grew (wr.alloc (.cells [.int .i64 0, .int .i64 0, .string ⟨#[]⟩, .string ⟨#[]⟩].toArray 31)) w5 := (by with_reducible exact gq); have BX := Lib.hid (heap_keepI hdr (heap_newI wr (.cells [.int .i64 0, .int .i64 0, .string ⟨#[]⟩, .string ⟨#[]⟩].toArray 31))))); clear h5 gq) | (go_at_call 14; refine (KCV.out _ (HG.out.trans (GQ1.out.trans (by repeat (with_reducible first | exact Grew.refl _ | refine Grew.drew ?_ | refine Grew.alloc ?_ _)))) HF.out).mono ?_; rintro e w6 ⟨A6, c6, rfl, h6, gq⟩; have GX := Lib.hid (show Grew w5 w6 from Grew.trans (by repeat (with_reducible first | exact Grew.refl _ | refine Grew.drew ?_ | refine Grew.alloc ?_ _)) gq); have GQ2 := Lib.hid (GQ1.out.trans GX.out); have HLS2 := Lib.hid (HLS.out.mono GX.out); have HLV := Lib.hid h6; (try have BX2 := Lib.hid (heap_keepI GX.out BX.out)); (try (have hdr : Grew (w5.alloc (.cells [.int .i64 0, .int .i64 0, .string ⟨#[]⟩, .string ⟨#[]⟩].toArray 31)).drew w6 := (by with_reducible exact gq); have BX2 := Lib.hid (heap_keepI (Grew.trans (Grew.refl _).drew hdr) (heap_newI w5 (.cells [.int .i64 0, .int .i64 0, .string ⟨#[]⟩, .string ⟨#[]⟩].toArray 31))))); (try (have hdr : Grew (w5.alloc (.cells [.int .i64 0, .int .i64 0, .string ⟨#[]⟩, .string ⟨#[]⟩].toArray 31)) w6 := (by with_reducible exact gq); have BX2 := Lib.hid (heap_keepI hdr (heap_newI w5 (.cells [.int .i64 0, .int .i64 0, .string ⟨#[]⟩, .string ⟨#[]⟩].toArray 31))))); clear h6 gq GX) | (go_at_call 12; refine (KPZ.out _ _ _ (HG.out.trans (GQ2.out.trans (by repeat (with_reducible first | exact Grew.refl _ | refine Grew.drew ?_ | refine Grew.alloc ?_ _)))) (HLS2.out.mono (by repeat (with_reducible first | exact Grew.refl _ | refine Grew.drew ?_ | refine Grew.alloc ?_ _))) (HLV.out.mono (by repeat (with_reducible first | exact Grew.refl _ | refine Grew.drew ?_ | refine Grew.alloc ?_ _))) HF.out).mono ?_; rintro e w7 ⟨rfl, gq⟩; have GX := Lib.hid (show Grew w6 w7 from Grew.trans (by repeat (with_reducible first | exact Grew.refl _ | refine Grew.drew ?_ | refine Grew.alloc ?_ _)) gq); have GQ3 := Lib.hid (GQ2.out.trans GX.out); (try have BX3 := Lib.hid (heap_keepI GX.out BX2.out)); (try (have hdr : Grew (w6.alloc (.cells [.int .i64 0, .int .i64 0, .string ⟨#[]⟩, .string ⟨#[]⟩].toArray 31)).drew w7 := (by with_reducible exact gq); have BX3 := Lib.hid (heap_keepI (Grew.trans (Grew.refl _).drew hdr) (heap_newI w6 (.cells [.int .i64 0, .int .i64 0, .string ⟨#[]⟩, .string ⟨#[]⟩].toArray 31))))); (try (have hdr : Grew (w6.alloc (.cells [.int .i64 0, .int .i64 0, .string ⟨#[]⟩, .string ⟨#[]⟩].toArray 31)) w7 := (by with_reducible exact gq); have BX3 := Lib.hid (heap_keepI hdr (heap_newI w6 (.cells [.int .i64 0, .int .i64 0, .string ⟨#[]⟩, .string ⟨#[]⟩].toArray 31))))); (try (have qq := four_cells BX3.out; obtain ⟨⟨q0, q1, q2, q3⟩, z0, z1, z2, z3⟩ := qq)); clear gq GX))
                all_goals go_wp2_with fail
                all_goals go_meet
                all_goals with_reducible first | exact val3 (val_meet2 GQ3.out) | exact val3 (val_meet q0 q1 q2 q3 (Nat.le_refl _) GQ3.out) | exact val3 (val_meet q0 q1 q2 q3 GQ1.out.size GQ3.out) | exact val3 (val_meet q0 q1 q2 q3 GQ2.out.size GQ3.out)
              case rest =>
                obtain ⟨⟨U3, rfl, rfl, u0, u1, u2, u3, GC⟩, rfl⟩ := hcut
                have GR3 := Lib.hid GC.out
                replace HG := Lib.hid (HG.out.trans GC.out)
                replace HTB := Lib.hid (fun W gg => HTB.out W (Grew.trans GC.out gg))
                replace HX1 := Lib.hid (fun W gg => HX1.out W (Grew.trans GC.out gg))
                replace HX2 := Lib.hid (fun W gg => HX2.out W (Grew.trans GC.out gg))
                replace HGp := Lib.hid (HGp.out.mono GC.out)
                clear t0 t1
                obtain ⟨t0, t1⟩ := HTB.out _ (Grew.refl _)
                have u0 := u0.out
                have u1 := u1.out
                have u2 := u2.out
                have u3 := u3.out
                have HX3 := Lib.hid (show ∀ W, Grew wc W → W.cell? ⟨U3, 0, none⟩ = some (.int .i64 zu) ∧ W.cell? ⟨U3, 1, none⟩ = some (.int .i64 ze) ∧ W.cell? ⟨U3, 2, none⟩ = some (.string zl) ∧ W.cell? ⟨U3, 3, none⟩ = some (.string zt) from fun W g => ⟨keep_cell g u0, keep_cell g u1, keep_cell g u2, keep_cell g u3⟩)
                clear u0 u1 u2 u3 GC
                cases acc
                · clear t0 t1 c0
                  go_wp2
                  go_roundg (ls.length - (k + 1))
                  case measure => omega
                  case rel => exact ⟨k + 1, hs, by omega, by omega, by go_num, rfl, (show Aside _ from (show hs = (ls.take (k + 1)).any F by rw [HTA.out]; simp)), (show Aside _ from GW.out.trans GR3.out)⟩
                · clear t0 t1 c0
                  go_wp2
                  go_roundg (ls.length - (k + 1))
                  case measure => omega
                  case rel => exact ⟨k + 1, true, by omega, by omega, by go_num, rfl, (show Aside _ from (show true = (ls.take (k + 1)).any F by rw [HTA.out]; simp)), (show Aside _ from GW.out.trans GR3.out)⟩
            · have hltz : ¬ (k : Int) < (ls.length : Int) := by omega
              obtain rfl : k = ls.length := by omega
              obtain rfl : acc = true := by have := HAC.out; rw [List.take_length, HSO3.out] at this; exact this
              clear t0 t1 HAC
              go_wp2
              go_ret
              exact ⟨rfl, HG.out⟩
        | false =>
          clear HOWN
          go_wp2_with fail
          go_loopg [21, 107] ls.length (fun gg s21 s107 wr => ∃ (k : Nat) (acc : Bool), k ≤ ls.length ∧ ls.length - k ≤ gg ∧ s107 = .int .i64 (k : Int) ∧ s21 = .bool acc ∧ Aside (acc = (ls.take k).any F) ∧ Aside (Grew wc wr))
          case atStart => exact ⟨0, false, by omega, by omega, rfl, rfl, (show Aside _ from (show false = (ls.take 0).any F by simp)), (show Aside _ from Grew.refl _)⟩
          case round =>
            obtain ⟨k, acc, hk, hgk, rfl, rfl, HAC, GW⟩ := hrel
            clear b10 b11 b12 b13 b20 b21 b22 b23
            obtain ⟨t0, t1⟩ := HTB.out _ (Grew.refl _)
            replace HG := Lib.hid (HG.out.trans GW.out)
            replace HTB := Lib.hid (fun W gg => HTB.out W (Grew.trans GW.out gg))
            replace HX1 := Lib.hid (fun W gg => HX1.out W (Grew.trans GW.out gg))
            replace HX2 := Lib.hid (fun W gg => HX2.out W (Grew.trans GW.out gg))
            replace HGp := Lib.hid (HGp.out.mono GW.out)
            clear t0 t1
            obtain ⟨t0, t1⟩ := HTB.out _ (Grew.refl _)
            by_cases hlt : k < ls.length
            · have hltz : (k : Int) < (ls.length : Int) := by omega
              have h0z : (0 : Int) ≤ (k : Int) := by omega
              obtain ⟨bb, off, rfl, hbb, hcell⟩ := HR.out (by omega)
              have c0 := hcell wr HG.out k hlt
              have hta := take_any ls F k hlt
              rw [← HAC.out] at hta
              have kp := KP.out ls[k]
              rw [KEA.out ls[k] (List.getElem_mem hlt)] at kp
              rw [← HFF.out ls[k]] at hta
              unfold RetVE at kp
              dsimp only at kp
              clear hcell HAC
              generalize foundF t.brs vs u n ls[k] = fo at kp hta
              generalize ls[k] = y at c0 kp
              generalize fo.isSome = hs at kp hta
              generalize fo.getD val0 = z at kp
              obtain ⟨zu, ze, zl, zt⟩ := z
              unfold Val.agg at kp
              dsimp only at kp
              have KPZ := Lib.hid kp
              have HTA := Lib.hid hta
              clear kp hta
              go_wp2_with fail
              go_cut [24, 25, 26] from 111 to 123 (fun s1 s2 s3 wx => ValCut3 wr zu ze zl zt hs 0 s1 s2 s3 wx)
              case first =>
                go_region_held3 (fun W => W.cell? ⟨w.heap.size, 0, none⟩ = some (.slice Ar t.roots.length cr) ∧ W.cell? ⟨w.heap.size, 1, none⟩ = some (.slice Ab t.brs.length cb) ∧ Grew wr W) (refine heldI wr _ t0 t1 (by repeat (with_reducible first | exact Grew.refl _ | exact GQ3.out | exact GQ2.out | exact GQ1.out | refine Grew.drew ?_ | refine Grew.alloc ?_ _ | refine Grew.setCell ?_ (by first | exact Nat.le_refl _ | exact GQ3.out.size | exact GQ2.out.size | exact GQ1.out.size | simp) _))) (first | (go_at_call 13; refine (KCS.out _ (HG.out.trans (by repeat (with_reducible first | exact Grew.refl _ | refine Grew.drew ?_ | refine Grew.alloc ?_ _))) HF.out).mono ?_; rintro e w5 ⟨A5, c5, rfl, h5, gq⟩; have GQ1 := Lib.hid (show Grew wr w5 from Grew.trans (by repeat (with_reducible first | exact Grew.refl _ | refine Grew.drew ?_ | refine Grew.alloc ?_ _)) gq); have HLS := Lib.hid h5; (try (have hdr : Grew (wr.alloc (.cells [.int .i64 0, .int .i64 0, .string ⟨#[]⟩, .string ⟨#[]⟩].toArray 31)).drew w5 := (by with_reducible exact gq); have BX := Lib.hid (heap_keepI (Grew.trans (Grew.refl _).drew hdr) (heap_newI wr (.cells [.int .i64 0, .int .i64 0, .string ⟨#[]⟩, .string ⟨#[]⟩].toArray 31))))); (try (have hdr : Grew (wr.alloc (.cells [.int .i64 0, .int .i64 0, .string ⟨#[]⟩, .string ⟨#[]⟩].toArray 31)) w5 := (by with_reducible exact gq); have BX := Lib.hid (heap_keepI hdr (heap_newI wr (.cells [.int .i64 0, .int .i64 0, .string ⟨#[]⟩, .string ⟨#[]⟩].toArray 31))))); clear h5 gq) | (go_at_call 14; refine (KCV.out _ (HG.out.trans (GQ1.out.trans (by repeat (with_reducible first | exact Grew.refl _ | refine Grew.drew ?_ | refine Grew.alloc ?_ _)))) HF.out).mono ?_; rintro e w6 ⟨A6, c6, rfl, h6, gq⟩; have GX := Lib.hid (show Grew w5 w6 from Grew.trans (by repeat (with_reducible first | exact Grew.refl _ | refine Grew.drew ?_ | refine Grew.alloc ?_ _)) gq); have GQ2 := Lib.hid (GQ1.out.trans GX.out); have HLS2 := Lib.hid (HLS.out.mono GX.out); have HLV := Lib.hid h6; (try have BX2 := Lib.hid (heap_keepI GX.out BX.out)); (try (have hdr : Grew (w5.alloc (.cells [.int .i64 0, .int .i64 0, .string ⟨#[]⟩, .string ⟨#[]⟩].toArray 31)).drew w6 := (by with_reducible exact gq); have BX2 := Lib.hid (heap_keepI (Grew.trans (Grew.refl _).drew hdr) (heap_newI w5 (.cells [.int .i64 0, .int .i64 0, .string ⟨#[]⟩, .string ⟨#[]⟩].toArray 31))))); (try (have hdr : Grew (w5.alloc (.cells [.int .i64 0, .int .i64 0, .string ⟨#[]⟩, .string ⟨#[]⟩].toArray 31)) w6 := (by with_reducible exact gq); have BX2 := Lib.hid (heap_keepI hdr (heap_newI w5 (.cells [.int .i64 0, .int .i64 0, .string ⟨#[]⟩, .string ⟨#[]⟩].toArray 31))))); clear h6 gq GX) | (go_at_call 12; refine (KPZ.out _ _ _ (HG.out.trans (GQ2.out.trans (by repeat (with_reducible first | exact Grew.refl _ | refine Grew.drew ?_ | refine Grew.alloc ?_ _)))) (HLS2.out.mono (by repeat (with_reducible first | exact Grew.refl _ | refine Grew.drew ?_ | refine Grew.alloc ?_ _))) (HLV.out.mono (by repeat (with_reducible first | exact Grew.refl _ | refine Grew.drew ?_ | refine Grew.alloc ?_ _))) HF.out).mono ?_; rintro e w7 ⟨rfl, gq⟩; have GX := Lib.hid (show Grew w6 w7 from Grew.trans (by repeat (with_reducible first | exact Grew.refl _ | refine Grew.drew ?_ | refine Grew.alloc ?_ _)) gq); have GQ3 := Lib.hid (GQ2.out.trans GX.out); (try have BX3 := Lib.hid (heap_keepI GX.out BX2.out)); (try (have hdr : Grew (w6.alloc (.cells [.int .i64 0, .int .i64 0, .string ⟨#[]⟩, .string ⟨#[]⟩].toArray 31)).drew w7 := (by with_reducible exact gq); have BX3 := Lib.hid (heap_keepI (Grew.trans (Grew.refl _).drew hdr) (heap_newI w6 (.cells [.int .i64 0, .int .i64 0, .string ⟨#[]⟩, .string ⟨#[]⟩].toArray 31))))); (try (have hdr : Grew (w6.alloc (.cells [.int .i64 0, .int .i64 0, .string ⟨#[]⟩, .string ⟨#[]⟩].toArray 31)) w7 := (by with_reducible exact gq); have BX3 := Lib.hid (heap_keepI hdr (heap_newI w6 (.cells [.int .i64 0, .int .i64 0, .string ⟨#[]⟩, .string ⟨#[]⟩].toArray 31))))); (try (have qq := four_cells BX3.out; obtain ⟨⟨q0, q1, q2, q3⟩, z0, z1, z2, z3⟩ := qq)); clear gq GX))
                all_goals go_wp2_with fail
                all_goals go_meet
                all_goals with_reducible first | exact val3 (val_meet2 GQ3.out) | exact val3 (val_meet q0 q1 q2 q3 (Nat.le_refl _) GQ3.out) | exact val3 (val_meet q0 q1 q2 q3 GQ1.out.size GQ3.out) | exact val3 (val_meet q0 q1 q2 q3 GQ2.out.size GQ3.out)
              case rest =>
                obtain ⟨⟨U3, rfl, rfl, u0, u1, u2, u3, GC⟩, rfl⟩ := hcut
                have GR3 := Lib.hid GC.out
                replace HG := Lib.hid (HG.out.trans GC.out)
                replace HTB := Lib.hid (fun W gg => HTB.out W (Grew.trans GC.out gg))
                replace HX1 := Lib.hid (fun W gg => HX1.out W (Grew.trans GC.out gg))
                replace HX2 := Lib.hid (fun W gg => HX2.out W (Grew.trans GC.out gg))
                replace HGp := Lib.hid (HGp.out.mono GC.out)
                clear t0 t1
                obtain ⟨t0, t1⟩ := HTB.out _ (Grew.refl _)
                have u0 := u0.out
                have u1 := u1.out
                have u2 := u2.out
                have u3 := u3.out
                have HX3 := Lib.hid (show ∀ W, Grew wc W → W.cell? ⟨U3, 0, none⟩ = some (.int .i64 zu) ∧ W.cell? ⟨U3, 1, none⟩ = some (.int .i64 ze) ∧ W.cell? ⟨U3, 2, none⟩ = some (.string zl) ∧ W.cell? ⟨U3, 3, none⟩ = some (.string zt) from fun W g => ⟨keep_cell g u0, keep_cell g u1, keep_cell g u2, keep_cell g u3⟩)
                clear u0 u1 u2 u3 GC
                cases acc
                · clear t0 t1 c0
                  go_wp2
                  go_roundg (ls.length - (k + 1))
                  case measure => omega
                  case rel => exact ⟨k + 1, hs, by omega, by omega, by go_num, rfl, (show Aside _ from (show hs = (ls.take (k + 1)).any F by rw [HTA.out]; simp)), (show Aside _ from GW.out.trans GR3.out)⟩
                · clear t0 t1 c0
                  go_wp2
                  go_roundg (ls.length - (k + 1))
                  case measure => omega
                  case rel => exact ⟨k + 1, true, by omega, by omega, by go_num, rfl, (show Aside _ from (show true = (ls.take (k + 1)).any F by rw [HTA.out]; simp)), (show Aside _ from GW.out.trans GR3.out)⟩
            · have hltz : ¬ (k : Int) < (ls.length : Int) := by omega
              obtain rfl : k = ls.length := by omega
              obtain rfl : acc = rs := by have := HAC.out; rw [List.take_length, HSO3.out] at this; exact this
              clear t0 t1 HAC
              go_wp2
              go_ret
              exact ⟨rfl, HG.out⟩
end Go.Proofs.YtmbpeniaefpljaaGreatDoor
