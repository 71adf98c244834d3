/- The law DescribeBack, walked, its awake given. The condition: the library's own variables hold what they must. -/
import Derived.Test.YtjaknioojpgkiaaGreatDoorQ36
import Derived.Test.YtjaknioojpgkiaaGreatDoorQ19
namespace Go.Proofs.YtjaknioojpgkiaaGreatDoor
open Go.RowKit

set_option maxHeartbeats 16000000 in
set_option maxRecDepth 100000 in
theorem dback_of (t : Tr) (ls : List ByteArray) (vs : List Val) (vu ve : Int) (vl vt : ByteArray) (wt : ByteArray) (rv bv lv vv : Value) (w : World) (hE : Env w) (hr : SlI w rv t.roots) (hb : SlBr w bv t.brs) (hl : SlS w lv ls) (hvv : SlV w vv vs) (hA : ∀ W, Grew w W → Calls Tryz.prog 10 #[] W fun e w' => e = .returned (.bool true) ∧ Grew W w') :
    Calls Tryz.prog 6 #[.agg #[rv, bv], lv, vv, .agg #[.int .i64 vu, .int .i64 ve, .string vl, .string vt], .string wt] w fun e w' => e = .returned (.bool true) ∧ Grew w w' := by
  have KA := Lib.hid hA
  have KW := Lib.hid (fun ms mv W (hW : Grew w W) (hm : SlS W mv ms) => fewLawD t ls vs ms rv bv lv vv mv W (hr.mono hW) (hb.mono hW) (hl.mono hW) (hvv.mono hW) hm)
  have KCS := Lib.hid (fun W (hW : Grew w W) (hf : FewI t ls vs) => clS ls lv W (hl.mono hW) hf.2.1)
  have KCV := Lib.hid (fun W (hW : Grew w W) (hf : FewI t ls vs) => clV vs vv W (hvv.mono hW) hf.2.2)
  have KW2 := Lib.hid (fun vv' W (hW : Grew w W) (hv' : SlV W vv' [⟨vu, ve, vl, vt⟩]) => few27q ls [⟨vu, ve, vl, vt⟩] lv vv' W (hl.mono hW) hv')
  have kN := fun lv' vv' W (hW : Grew w W) (hl' : SlS W lv' ls) (hv' : SlV W vv' vs) (hf : FewI t ls vs) => dSet t ls vs ⟨vu, ve, vl, vt⟩ rv bv lv' vv' W (hE.mono hW) (hr.mono hW) (hb.mono hW) hf.1.br hf.1.rs hl' hv' (by have := hf.2.2; omega)
  have kC := fun n (hn : n.length ≤ 1024) => fun lv' vv' W (hW : Grew w W) (hl' : SlS W lv' ls) (hv' : SlV W vv' n) (hf : FewI t ls vs) => dClear t ls n vu ve vl rv bv lv' vv' W (hE.mono hW) (hr.mono hW) (hb.mono hW) hf.1.br hf.1.rs hl' hv' (by omega)
  have kF := fun n u => fun lv' vv' W (hW : Grew w W) (hl' : SlS W lv' ls) (hv' : SlV W vv' n) (hf : FewI t ls vs) => iFoundX t ls n u ve vl rv bv lv' vv' W (hE.mono hW) (hr.mono hW) (hb.mono hW) hf.1.br hf.1.rs hl' hv'
  have HTWO := Lib.hid (set_two t ls vs ⟨vu, ve, vl, vt⟩)
  have HPL := Lib.hid (fun h hno => back_each (t := t) (ls := ls) (vs := vs) (v := ⟨vu, ve, vl, vt⟩) h hno)
  have KG := Lib.hid (fun s (hs : (getF vs vu ve vl).isSome = s) v W (hv : SlV W v vs) => get_is29 hs v W hv)
  unfold RetVL at kN kC
  unfold RetVE at kF
  unfold Val.agg at kN
  generalize setR t ls vs ⟨vu, ve, vl, vt⟩ = R at kN HTWO HPL
  obtain ⟨na, ne⟩ := R
  dsimp only at kN HTWO HPL
  have KN := Lib.hid kN
  have KC := Lib.hid kC
  have KF := Lib.hid kF
  clear kN kC kF
  obtain ⟨Ab0, cb0, hbv, hbl, hbc, hbr⟩ := hb.open_
  unfold maxLen at hbc
  have HBR := Lib.hid hbr
  clear hbr
  obtain ⟨Av, cv, rfl, -⟩ := hvv.open_
  obtain ⟨Ar, cr, rfl, -⟩ := hr.open_
  obtain ⟨Ab, cb, rfl, -⟩ := hb.open_
  clear hE hr hb hl hvv hA
  injection hbv with b1 b2 b3
  subst b1 b3
  have HVN := Lib.hid (fun (W : World) => heap_newI (w.alloc (.cells #[.slice Ar t.roots.length cr, .slice Ab t.brs.length cb] 25)) (.cells #[.int .i64 vu, .int .i64 ve, .string vl, .string vt] 29))
  go_enter Tryz.func6, Tryz.ntmps6
  go_wp2_with fail
  refine (KA.out _ (((Grew.refl w).alloc _).alloc _)).mono ?_
  rintro e wa ⟨rfl, ga⟩
  have t0 := new_cell (w := w) (((Grew.refl _).alloc _).trans ga) 0 _ rfl
  have t1 := new_cell (w := w) (((Grew.refl _).alloc _).trans ga) 1 _ rfl
  have hvh := heap_keepI ga (HVN.out w)
  rw [World.size_alloc] at hvh
  obtain ⟨⟨v0, v1, v2, v3⟩, -⟩ := four_cells hvh
  have HTB := Lib.hid (show ∀ W, Grew wa W → W.cell? ⟨w.heap.size, 0, none⟩ = some (.slice Ar t.roots.length cr) ∧ W.cell? ⟨w.heap.size, 1, none⟩ = some (.slice Ab t.brs.length cb) from fun W g => ⟨keep_cell g t0, keep_cell g t1⟩)
  have HVB := Lib.hid (show ∀ W, Grew wa W → W.cell? ⟨w.heap.size + 1, 0, none⟩ = some (.int .i64 vu) ∧ W.cell? ⟨w.heap.size + 1, 1, none⟩ = some (.int .i64 ve) ∧ W.cell? ⟨w.heap.size + 1, 2, none⟩ = some (.string vl) ∧ W.cell? ⟨w.heap.size + 1, 3, none⟩ = some (.string vt) from fun W g => ⟨keep_cell g v0, keep_cell g v1, keep_cell g v2, keep_cell g v3⟩)
  have HG := Lib.hid ((((Grew.refl w).alloc _).alloc _).trans ga)
  clear ga hvh HVN
  dsimp only
  go_wp2_with fail
  refine (KW.out _ _ _ (HG.out.alloc _) (lit2S _ _ _)).mono ?_
  rintro e wb ⟨q, rfl, hq, gb⟩
  have HQ := Lib.hid hq
  have GB := Lib.hid (Grew.trans ((Grew.refl wa).alloc _) gb)
  clear hq gb
  replace HG := Lib.hid (HG.out.trans GB.out)
  replace HTB := Lib.hid (fun W gg => HTB.out W (Grew.trans GB.out gg))
  replace HVB := Lib.hid (fun W gg => HVB.out W (Grew.trans GB.out gg))
  clear t0 t1
  obtain ⟨t0, t1⟩ := HTB.out _ (Grew.refl _)
  clear v0 v1 v2 v3
  obtain ⟨v0, v1, v2, v3⟩ := HVB.out _ (Grew.refl _)
  dsimp only
  cases q
  · clear HQ
    go_wp2_with fail
    refine (KA.out _ HG.out).mono ?_
    rintro e wz ⟨rfl, g3⟩
    have HG3 := Lib.hid (HG.out.trans g3)
    clear g3
    dsimp only
    go_wp2
    go_ret
    exact ⟨rfl, HG3.out⟩
  have HF := Lib.hid (HQ.out (by first | rfl | trivial))
  clear HQ
  go_wp2_with fail
  refine (KW2.out _ _ (HG.out.alloc _) (lit1V vu ve vl vt _)).mono ?_
  rintro e wd ⟨q, rfl, gd⟩
  have GD := Lib.hid (Grew.trans ((Grew.refl wb).alloc _) gd)
  clear gd
  replace HG := Lib.hid (HG.out.trans GD.out)
  replace HTB := Lib.hid (fun W gg => HTB.out W (Grew.trans GD.out gg))
  replace HVB := Lib.hid (fun W gg => HVB.out W (Grew.trans GD.out gg))
  clear t0 t1
  obtain ⟨t0, t1⟩ := HTB.out _ (Grew.refl _)
  clear v0 v1 v2 v3
  obtain ⟨v0, v1, v2, v3⟩ := HVB.out _ (Grew.refl _)
  dsimp only
  cases q
  · clear KW
    go_wp2_with fail
    refine (KA.out _ HG.out).mono ?_
    rintro e wz ⟨rfl, g3⟩
    have HG3 := Lib.hid (HG.out.trans g3)
    clear g3
    dsimp only
    go_wp2
    go_ret
    exact ⟨rfl, HG3.out⟩
  go_wp2_with fail
  obtain ⟨s, hs⟩ : ∃ s, (getF vs vu ve vl).isSome = s := ⟨_, rfl⟩
  have KG2 := Lib.hid (KG.out s hs)
  clear KG
  go_cut [11, 12] from 47 to 57 (fun s11 s12 wx => (∃ x, s11 = .string x) ∧ s12 = .bool s ∧ Aside (Grew wd wx))
  case first =>
    go_region_held3 (fun W => W.cell? ⟨w.heap.size, 0, none⟩ = some (.slice Ar t.roots.length cr) ∧ W.cell? ⟨w.heap.size, 1, none⟩ = some (.slice Ab t.brs.length cb) ∧ W.cell? ⟨w.heap.size + 1, 0, none⟩ = some (.int .i64 vu) ∧ W.cell? ⟨w.heap.size + 1, 1, none⟩ = some (.int .i64 ve) ∧ W.cell? ⟨w.heap.size + 1, 2, none⟩ = some (.string vl) ∧ W.cell? ⟨w.heap.size + 1, 3, none⟩ = some (.string vt) ∧ Grew wd W) (refine held6 wd _ t0 t1 v0 v1 v2 v3 (by repeat (with_reducible first | exact Grew.refl _ | exact GZ.out | exact GQ1.out | refine Grew.drew ?_ | refine Grew.alloc ?_ _ | refine Grew.setCell ?_ (by first | exact Nat.le_refl _ | exact GZ.out.size | exact GQ1.out.size | simp) _))) (first | (go_at_call 15; with_reducible refine (KCV.out _ (HG.out.trans (by repeat (with_reducible first | exact Grew.refl _ | refine Grew.drew ?_ | refine Grew.alloc ?_ _))) HF.out).mono ?_; rintro e wq1 ⟨A6, c6, rfl, h6, gq⟩; have GQ1 := Lib.hid (show Grew wd wq1 from Grew.trans (by repeat (with_reducible first | exact Grew.refl _ | refine Grew.drew ?_ | refine Grew.alloc ?_ _)) gq); have HLV := Lib.hid h6; clear h6 gq) | (go_at_call 30; with_reducible refine (KG2.out _ _ (HLV.out.mono (by repeat (with_reducible first | exact Grew.refl _ | refine Grew.drew ?_ | refine Grew.alloc ?_ _)))).mono ?_; rintro e wz ⟨⟨sx, rfl⟩, gq⟩; have GZ := Lib.hid (show Grew wd wz from GQ1.out.trans (Grew.trans (by repeat (with_reducible first | exact Grew.refl _ | refine Grew.drew ?_ | refine Grew.alloc ?_ _)) gq)); clear gq))
    all_goals go_wp2_with fail
    all_goals go_meet
    all_goals exact ⟨⟨sx, rfl⟩, rfl, (show Aside _ from GZ.out)⟩
  case rest =>
    obtain ⟨⟨sx, rfl⟩, rfl, GC⟩ := hcut
    replace HG := Lib.hid (HG.out.trans GC.out)
    replace HTB := Lib.hid (fun W gg => HTB.out W (Grew.trans GC.out gg))
    replace HVB := Lib.hid (fun W gg => HVB.out W (Grew.trans GC.out gg))
    clear t0 t1
    obtain ⟨t0, t1⟩ := HTB.out _ (Grew.refl _)
    clear v0 v1 v2 v3
    obtain ⟨v0, v1, v2, v3⟩ := HVB.out _ (Grew.refl _)
    cases s with
    | true =>
      clear t0 t1 v0 v1 v2 v3 HTWO HPL KN KC KF HBR
      go_wp2
      go_ret
      exact ⟨rfl, HG.out⟩
    | false =>
      have hno : getF vs vu ve vl = none := by simpa using hs
      clear hs GC KG2
      go_wp2_with fail
      go_cut [13, 14] from 60 to 68 (fun s1 s2 wx => LvsCut wc na ne s1 s2 wx)
      case first =>
        go_region_held3 (fun W => W.cell? ⟨w.heap.size, 0, none⟩ = some (.slice Ar t.roots.length cr) ∧ W.cell? ⟨w.heap.size, 1, none⟩ = some (.slice Ab t.brs.length cb) ∧ W.cell? ⟨w.heap.size + 1, 0, none⟩ = some (.int .i64 vu) ∧ W.cell? ⟨w.heap.size + 1, 1, none⟩ = some (.int .i64 ve) ∧ W.cell? ⟨w.heap.size + 1, 2, none⟩ = some (.string vl) ∧ W.cell? ⟨w.heap.size + 1, 3, none⟩ = some (.string vt) ∧ Grew wc W) (refine held6 wc _ t0 t1 v0 v1 v2 v3 (by repeat (with_reducible first | exact Grew.refl _ | exact GZ.out | exact GQ2.out | exact GQ1.out | refine Grew.drew ?_ | refine Grew.alloc ?_ _ | refine Grew.setCell ?_ (by first | exact Nat.le_refl _ | exact GZ.out.size | exact GQ2.out.size | exact GQ1.out.size | simp) _))) (first | (go_at_call 14; with_reducible refine (KCS.out _ (HG.out.trans (by repeat (with_reducible first | exact Grew.refl _ | refine Grew.drew ?_ | refine Grew.alloc ?_ _))) HF.out).mono ?_; rintro e wq1 ⟨A1, c1, rfl, h5, gq⟩; have GX := Lib.hid (show Grew wc wq1 from Grew.trans (by repeat (with_reducible first | exact Grew.refl _ | refine Grew.drew ?_ | refine Grew.alloc ?_ _)) gq); have GQ1 := Lib.hid (show Grew wc wq1 from GX.out); have HLS1_1 := Lib.hid h5; clear h5 gq GX) | (go_at_call 15; with_reducible refine (KCV.out _ (HG.out.trans (GQ1.out.trans (by repeat (with_reducible first | exact Grew.refl _ | refine Grew.drew ?_ | refine Grew.alloc ?_ _)))) HF.out).mono ?_; rintro e wq2 ⟨A2, c2, rfl, h5, gq⟩; have GX := Lib.hid (show Grew wq1 wq2 from Grew.trans (by repeat (with_reducible first | exact Grew.refl _ | refine Grew.drew ?_ | refine Grew.alloc ?_ _)) gq); have GQ2 := Lib.hid (show Grew wc wq2 from GQ1.out.trans GX.out); have HLS1_2 := Lib.hid (HLS1_1.out.mono GX.out); have HLS2_2 := Lib.hid h5; clear h5 gq GX) | (go_at_call 17; with_reducible refine (KN.out _ _ _ (HG.out.trans (GQ2.out.trans (by repeat (with_reducible first | exact Grew.refl _ | refine Grew.drew ?_ | refine Grew.alloc ?_ _)))) (HLS1_2.out.mono (by repeat (with_reducible first | exact Grew.refl _ | refine Grew.drew ?_ | refine Grew.alloc ?_ _))) (HLS2_2.out.mono (by repeat (with_reducible first | exact Grew.refl _ | refine Grew.drew ?_ | refine Grew.alloc ?_ _))) HF.out).mono ?_; rintro e wz ⟨vq, rfl, ho, gq⟩; have GZ := Lib.hid (show Grew wc wz from GQ2.out.trans (Grew.trans (by repeat (with_reducible first | exact Grew.refl _ | refine Grew.drew ?_ | refine Grew.alloc ?_ _)) gq)); obtain ⟨Aq, cq, rfl⟩ := own_slice ho; have HO := Lib.hid (Rd.of_own ho); clear ho gq))
        all_goals go_wp2_with fail
        all_goals go_meet
        all_goals exact lvsC HO.out GZ.out
      case rest =>
        obtain ⟨⟨An, cn, rfl⟩, rfl, HLX, GC⟩ := hcut
        replace HG := Lib.hid (HG.out.trans GC.out)
        replace HTB := Lib.hid (fun W gg => HTB.out W (Grew.trans GC.out gg))
        replace HVB := Lib.hid (fun W gg => HVB.out W (Grew.trans GC.out gg))
        clear t0 t1
        obtain ⟨t0, t1⟩ := HTB.out _ (Grew.refl _)
        clear v0 v1 v2 v3
        obtain ⟨v0, v1, v2, v3⟩ := HVB.out _ (Grew.refl _)
        have Hn := Lib.hid HLX.out
        clear HLX GC
        rcases HTWO.out with ⟨hne, -⟩ | ⟨h0, hlen⟩
        · have hb : (ne != 0) = true := by simpa using hne
          clear HTWO HPL KN KC KF HBR hne t0 t1 v0 v1 v2 v3
          go_wp2
          go_ret
          exact ⟨rfl, HG.out⟩
        obtain ⟨hce, hcl, hbr⟩ := HPL.out h0 hno
        subst h0
        have kc := KC.out na hlen
        generalize clearR t ls na ⟨vu, ve, vl, ⟨#[]⟩⟩ = C at kc hce hcl hbr
        obtain ⟨ca, ce⟩ := C
        dsimp only at kc hce hcl hbr
        subst hce
        have KC2 := Lib.hid kc
        have HEA := Lib.hid hbr
        have HLN := Lib.hid (show na.length ≤ 1025 by omega)
        have HLC := Lib.hid (show ca.length ≤ 1025 by omega)
        clear kc hno hcl hbr hlen HTWO HPL KN KC
        go_wp2_with fail
        go_cut [15, 16] from 72 to 85 (fun s1 s2 wx => LvsCut wc ca 0 s1 s2 wx)
        case first =>
          go_region_held3 (fun W => W.cell? ⟨w.heap.size, 0, none⟩ = some (.slice Ar t.roots.length cr) ∧ W.cell? ⟨w.heap.size, 1, none⟩ = some (.slice Ab t.brs.length cb) ∧ W.cell? ⟨w.heap.size + 1, 0, none⟩ = some (.int .i64 vu) ∧ W.cell? ⟨w.heap.size + 1, 1, none⟩ = some (.int .i64 ve) ∧ W.cell? ⟨w.heap.size + 1, 2, none⟩ = some (.string vl) ∧ W.cell? ⟨w.heap.size + 1, 3, none⟩ = some (.string vt) ∧ Grew wc W) (refine held6 wc _ t0 t1 v0 v1 v2 v3 (by repeat (with_reducible first | exact Grew.refl _ | exact GZ.out | exact GQ2.out | exact GQ1.out | refine Grew.drew ?_ | refine Grew.alloc ?_ _ | refine Grew.setCell ?_ (by first | exact Nat.le_refl _ | exact GZ.out.size | exact GQ2.out.size | exact GQ1.out.size | simp) _))) (first | (go_at_call 14; with_reducible refine (KCS.out _ (HG.out.trans (by repeat (with_reducible first | exact Grew.refl _ | refine Grew.drew ?_ | refine Grew.alloc ?_ _))) HF.out).mono ?_; rintro e wq1 ⟨A1, c1, rfl, h5, gq⟩; have GX := Lib.hid (show Grew wc wq1 from Grew.trans (by repeat (with_reducible first | exact Grew.refl _ | refine Grew.drew ?_ | refine Grew.alloc ?_ _)) gq); have GQ1 := Lib.hid (show Grew wc wq1 from GX.out); have HLS1_1 := Lib.hid h5; clear h5 gq GX) | (go_at_call 15; with_reducible refine (clV _ _ _ (Hn.out.mono (GQ1.out.trans (by repeat (with_reducible first | exact Grew.refl _ | refine Grew.drew ?_ | refine Grew.alloc ?_ _)))) HLN.out).mono ?_; rintro e wq2 ⟨A2, c2, rfl, h5, gq⟩; have GX := Lib.hid (show Grew wq1 wq2 from Grew.trans (by repeat (with_reducible first | exact Grew.refl _ | refine Grew.drew ?_ | refine Grew.alloc ?_ _)) gq); have GQ2 := Lib.hid (show Grew wc wq2 from GQ1.out.trans GX.out); have HLS1_2 := Lib.hid (HLS1_1.out.mono GX.out); have HLS2_2 := Lib.hid h5; clear h5 gq GX) | (go_at_call 19; with_reducible refine (KC2.out _ _ _ (HG.out.trans (GQ2.out.trans (by repeat (with_reducible first | exact Grew.refl _ | refine Grew.drew ?_ | refine Grew.alloc ?_ _)))) (HLS1_2.out.mono (by repeat (with_reducible first | exact Grew.refl _ | refine Grew.drew ?_ | refine Grew.alloc ?_ _))) (HLS2_2.out.mono (by repeat (with_reducible first | exact Grew.refl _ | refine Grew.drew ?_ | refine Grew.alloc ?_ _))) HF.out).mono ?_; rintro e wz ⟨vq, rfl, ho, gq⟩; have GZ := Lib.hid (show Grew wc wz from GQ2.out.trans (Grew.trans (by repeat (with_reducible first | exact Grew.refl _ | refine Grew.drew ?_ | refine Grew.alloc ?_ _)) gq)); obtain ⟨Aq, cq, rfl⟩ := own_slice ho; have HO := Lib.hid (Rd.of_own ho); clear ho gq))
          all_goals go_wp2_with fail
          all_goals go_meet
          all_goals exact lvsC HO.out GZ.out
        case rest =>
          obtain ⟨⟨Ac, cc, rfl⟩, rfl, HLX, GC⟩ := hcut
          replace HG := Lib.hid (HG.out.trans GC.out)
          replace HTB := Lib.hid (fun W gg => HTB.out W (Grew.trans GC.out gg))
          replace HVB := Lib.hid (fun W gg => HVB.out W (Grew.trans GC.out gg))
          replace Hn := Lib.hid (Hn.out.mono GC.out)
          clear t0 t1
          obtain ⟨t0, t1⟩ := HTB.out _ (Grew.refl _)
          clear v0 v1 v2 v3
          obtain ⟨v0, v1, v2, v3⟩ := HVB.out _ (Grew.refl _)
          have Hc := Lib.hid HLX.out
          clear HLX GC
          go_wp2_with fail
          go_loopg [91] t.brs.length (fun gg s91 wr => ∃ k : Nat, k ≤ t.brs.length ∧ t.brs.length - k ≤ gg ∧ s91 = .int .i64 (k : Int) ∧ Aside (Grew wc wr))
          case atStart => exact ⟨0, by omega, by omega, rfl, (show Aside _ from Grew.refl _)⟩
          case round =>
            obtain ⟨k, hk, hgk, rfl, GW⟩ := hrel
            have HGI := Lib.hid GW.out
            clear t0 t1 v0 v1 v2 v3
            by_cases hlt : k < t.brs.length
            · have hltz : (k : Int) < (t.brs.length : Int) := by omega
              have h0z : (0 : Int) ≤ (k : Int) := by omega
              have HG0 := Lib.hid (HG.out.trans GW.out)
              obtain ⟨bb, off, rfl, hbb, hcell⟩ := HBR.out (by omega)
              obtain ⟨kv, hkv, hcl⟩ := hcell k hlt
              obtain ⟨y0, y1, y2, y3, y4, y5⟩ := hcl wr HG0.out
              obtain ⟨KX, Kc, rfl, -⟩ := SlI.open_ hkv
              obtain ⟨o1, o2, hf1, hf2, hor⟩ := HEA.out t.brs[k] (List.getElem_mem hlt)
              have kf1 := KF.out vs t.brs[k].id
              have kf2 := KF.out ca t.brs[k].id
              rw [hf1] at kf1
              rw [hf2] at kf2
              clear hcell hcl hkv hbb hf1 hf2
              have t0 := (HTB.out _ GW.out).1
              have t1 := (HTB.out _ GW.out).2
              obtain ⟨v0, v1, v2, v3⟩ := HVB.out _ GW.out
              replace HG := Lib.hid (HG.out.trans GW.out)
              replace HTB := Lib.hid (fun W gg => HTB.out W (Grew.trans GW.out gg))
              replace HVB := Lib.hid (fun W gg => HVB.out W (Grew.trans GW.out gg))
              replace Hn := Lib.hid (Hn.out.mono GW.out)
              replace Hc := Lib.hid (Hc.out.mono GW.out)
              clear t0 t1
              obtain ⟨t0, t1⟩ := HTB.out _ (Grew.refl _)
              clear v0 v1 v2 v3
              obtain ⟨v0, v1, v2, v3⟩ := HVB.out _ (Grew.refl _)
              generalize t.brs[k].kids.length = kl at y5
              generalize t.brs[k] = y at y0 y1 y2 y3 y4 kf1 kf2
              obtain ⟨yi, yp, yl, yt, ym, yk⟩ := y
              dsimp only at y0 y1 y2 y3 y4 kf1 kf2 hor
              generalize o1.isSome = p at kf1 hor
              generalize o2.isSome = q at kf2 hor
              generalize o1.getD val0 = x at kf1 hor
              generalize o2.getD val0 = z at kf2 hor
              obtain ⟨xu, xe, xl, xt⟩ := x
              obtain ⟨zu, ze, zl, zt⟩ := z
              unfold Val.agg at kf1 kf2
              dsimp only at kf1 kf2 hor
              have KF1 := Lib.hid kf1
              have KF2 := Lib.hid kf2
              have HOR := Lib.hid hor
              clear kf1 kf2 hor
              have GB := Lib.hid ((Grew.refl wr).alloc (.cells #[.int .i64 yi, .int .i64 yp, .int .i64 yl, .string yt, .string ym, .slice KX kl Kc] 56))
              have x0 := new_cell (Grew.refl (wr.alloc (.cells #[.int .i64 yi, .int .i64 yp, .int .i64 yl, .string yt, .string ym, .slice KX kl Kc] 56))) 0 _ rfl
              have HXB := Lib.hid (show ∀ W, Grew (wr.alloc (.cells #[.int .i64 yi, .int .i64 yp, .int .i64 yl, .string yt, .string ym, .slice KX kl Kc] 56)) W → W.cell? ⟨wr.heap.size, 0, none⟩ = some (.int .i64 yi) from fun W g => keep_cell g x0)
              replace HG := Lib.hid (HG.out.trans GB.out)
              replace HTB := Lib.hid (fun W gg => HTB.out W (Grew.trans GB.out gg))
              replace HVB := Lib.hid (fun W gg => HVB.out W (Grew.trans GB.out gg))
              replace Hn := Lib.hid (Hn.out.mono GB.out)
              replace Hc := Lib.hid (Hc.out.mono GB.out)
              clear t0 t1
              obtain ⟨t0, t1⟩ := HTB.out _ (Grew.refl _)
              clear v0 v1 v2 v3
              obtain ⟨v0, v1, v2, v3⟩ := HVB.out _ (Grew.refl _)
              go_wp2_with fail
              generalize hwy : wr.alloc (.cells #[.int .i64 yi, .int .i64 yp, .int .i64 yl, .string yt, .string ym, .slice KX kl Kc] 56) = wy at HG HTB HVB t0 t1 v0 v1 v2 v3 HXB x0 Hn Hc GB ⊢
              generalize wr.heap.size = XB at HXB x0 ⊢
              have HGB := Lib.hid (GW.out.trans GB.out)
              clear hwy GB y0 y1 y2 y3 y4 y5
              go_cut [19, 20, 21] from 96 to 111 (fun s1 s2 s3 wx => ValCut3 wy xu xe xl xt p 0 s1 s2 s3 wx)
              case first =>
                go_region_held3 (fun W => W.cell? ⟨w.heap.size, 0, none⟩ = some (.slice Ar t.roots.length cr) ∧ W.cell? ⟨w.heap.size, 1, none⟩ = some (.slice (some ⟨bb, off, none⟩) t.brs.length cb) ∧ W.cell? ⟨w.heap.size + 1, 0, none⟩ = some (.int .i64 vu) ∧ W.cell? ⟨w.heap.size + 1, 1, none⟩ = some (.int .i64 ve) ∧ W.cell? ⟨w.heap.size + 1, 2, none⟩ = some (.string vl) ∧ W.cell? ⟨w.heap.size + 1, 3, none⟩ = some (.string vt) ∧ W.cell? ⟨XB, 0, none⟩ = some (.int .i64 yi) ∧ Grew wy W) (refine heldB7 wy _ t0 t1 v0 v1 v2 v3 x0 (by repeat (with_reducible first | exact Grew.refl _ | exact GZ.out | exact GQ2.out | exact GQ1.out | refine Grew.drew ?_ | refine Grew.alloc ?_ _ | refine Grew.setCell ?_ (by first | exact Nat.le_refl _ | exact GZ.out.size | exact GQ2.out.size | exact GQ1.out.size | simp) _))) (first | (go_at_call 14; with_reducible refine (KCS.out _ (HG.out.trans (by repeat (with_reducible first | exact Grew.refl _ | refine Grew.drew ?_ | refine Grew.alloc ?_ _))) HF.out).mono ?_; rintro e wq1 ⟨A1, c1, rfl, h5, gq⟩; have GX := Lib.hid (show Grew wy wq1 from Grew.trans (by repeat (with_reducible first | exact Grew.refl _ | refine Grew.drew ?_ | refine Grew.alloc ?_ _)) gq); have GQ1 := Lib.hid (show Grew wy wq1 from GX.out); have HLS1_1 := Lib.hid h5; (try (have hdr : Grew (wy.alloc (.cells [.int .i64 0, .int .i64 0, .string ⟨#[]⟩, .string ⟨#[]⟩].toArray 29)).drew wq1 := (by with_reducible exact gq); have BX1 := Lib.hid (heap_keepI (Grew.trans (Grew.refl _).drew hdr) (heap_newI wy (.cells [.int .i64 0, .int .i64 0, .string ⟨#[]⟩, .string ⟨#[]⟩].toArray 29))))); (try (have hdr : Grew (wy.alloc (.cells [.int .i64 0, .int .i64 0, .string ⟨#[]⟩, .string ⟨#[]⟩].toArray 29)) wq1 := (by with_reducible exact gq); have BX1 := Lib.hid (heap_keepI hdr (heap_newI wy (.cells [.int .i64 0, .int .i64 0, .string ⟨#[]⟩, .string ⟨#[]⟩].toArray 29))))); clear h5 gq GX) | (go_at_call 15; with_reducible refine (KCV.out _ (HG.out.trans (GQ1.out.trans (by repeat (with_reducible first | exact Grew.refl _ | refine Grew.drew ?_ | refine Grew.alloc ?_ _)))) HF.out).mono ?_; rintro e wq2 ⟨A2, c2, rfl, h5, gq⟩; have GX := Lib.hid (show Grew wq1 wq2 from Grew.trans (by repeat (with_reducible first | exact Grew.refl _ | refine Grew.drew ?_ | refine Grew.alloc ?_ _)) gq); have GQ2 := Lib.hid (show Grew wy wq2 from GQ1.out.trans GX.out); have HLS1_2 := Lib.hid (HLS1_1.out.mono GX.out); have HLS2_2 := Lib.hid h5; (try (have BX2 := Lib.hid (heap_keepI GX.out BX1.out))); (try (have hdr : Grew (wq1.alloc (.cells [.int .i64 0, .int .i64 0, .string ⟨#[]⟩, .string ⟨#[]⟩].toArray 29)).drew wq2 := (by with_reducible exact gq); have BX2 := Lib.hid (heap_keepI (Grew.trans (Grew.refl _).drew hdr) (heap_newI wq1 (.cells [.int .i64 0, .int .i64 0, .string ⟨#[]⟩, .string ⟨#[]⟩].toArray 29))))); (try (have hdr : Grew (wq1.alloc (.cells [.int .i64 0, .int .i64 0, .string ⟨#[]⟩, .string ⟨#[]⟩].toArray 29)) wq2 := (by with_reducible exact gq); have BX2 := Lib.hid (heap_keepI hdr (heap_newI wq1 (.cells [.int .i64 0, .int .i64 0, .string ⟨#[]⟩, .string ⟨#[]⟩].toArray 29))))); clear h5 gq GX) | (go_at_call 31; with_reducible refine (KF1.out _ _ _ (HG.out.trans (GQ2.out.trans (by repeat (with_reducible first | exact Grew.refl _ | refine Grew.drew ?_ | refine Grew.alloc ?_ _)))) (HLS1_2.out.mono (by repeat (with_reducible first | exact Grew.refl _ | refine Grew.drew ?_ | refine Grew.alloc ?_ _))) (HLS2_2.out.mono (by repeat (with_reducible first | exact Grew.refl _ | refine Grew.drew ?_ | refine Grew.alloc ?_ _))) HF.out).mono ?_; rintro e wz ⟨rfl, gq⟩; have GX := Lib.hid (show Grew wq2 wz from Grew.trans (by repeat (with_reducible first | exact Grew.refl _ | refine Grew.drew ?_ | refine Grew.alloc ?_ _)) gq); have GZ := Lib.hid (show Grew wy wz from GQ2.out.trans GX.out); (try (have BXZ := Lib.hid (heap_keepI GX.out BX2.out))); (try (have hdr : Grew (wq2.alloc (.cells [.int .i64 0, .int .i64 0, .string ⟨#[]⟩, .string ⟨#[]⟩].toArray 29)).drew wz := (by with_reducible exact gq); have BXZ := Lib.hid (heap_keepI (Grew.trans (Grew.refl _).drew hdr) (heap_newI wq2 (.cells [.int .i64 0, .int .i64 0, .string ⟨#[]⟩, .string ⟨#[]⟩].toArray 29))))); (try (have hdr : Grew (wq2.alloc (.cells [.int .i64 0, .int .i64 0, .string ⟨#[]⟩, .string ⟨#[]⟩].toArray 29)) wz := (by with_reducible exact gq); have BXZ := Lib.hid (heap_keepI hdr (heap_newI wq2 (.cells [.int .i64 0, .int .i64 0, .string ⟨#[]⟩, .string ⟨#[]⟩].toArray 29))))); (try (have qq := four_cells BXZ.out; obtain ⟨⟨q0, q1, q2, q3⟩, z0, z1, z2, z3⟩ := qq)); clear gq GX))
                all_goals go_wp2_with fail
                all_goals go_meet
                all_goals with_reducible first | exact val3 (val_meet2 GZ.out) | exact val3 (val_meet q0 q1 q2 q3 (Nat.le_refl _) GZ.out) | exact val3 (val_meet q0 q1 q2 q3 GQ1.out.size GZ.out) | exact val3 (val_meet q0 q1 q2 q3 GQ2.out.size GZ.out)
              case rest =>
                obtain ⟨⟨U1, rfl, rfl, u0, u1, u2, u3, GC⟩, rfl⟩ := hcut
                have GR1 := Lib.hid GC.out
                replace HG := Lib.hid (HG.out.trans GC.out)
                replace HTB := Lib.hid (fun W gg => HTB.out W (Grew.trans GC.out gg))
                replace HVB := Lib.hid (fun W gg => HVB.out W (Grew.trans GC.out gg))
                replace Hn := Lib.hid (Hn.out.mono GC.out)
                replace Hc := Lib.hid (Hc.out.mono GC.out)
                replace HXB := Lib.hid (fun W gg => HXB.out W (Grew.trans GC.out gg))
                clear t0 t1
                obtain ⟨t0, t1⟩ := HTB.out _ (Grew.refl _)
                clear v0 v1 v2 v3
                obtain ⟨v0, v1, v2, v3⟩ := HVB.out _ (Grew.refl _)
                clear x0
                have x0 := HXB.out _ (Grew.refl _)
                have u0 := u0.out
                have u1 := u1.out
                have u2 := u2.out
                have u3 := u3.out
                have HX1 := Lib.hid (show ∀ W, Grew wc W → W.cell? ⟨U1, 0, none⟩ = some (.int .i64 xu) ∧ W.cell? ⟨U1, 1, none⟩ = some (.int .i64 xe) ∧ W.cell? ⟨U1, 2, none⟩ = some (.string xl) ∧ W.cell? ⟨U1, 3, none⟩ = some (.string xt) from fun W g => ⟨keep_cell g u0, keep_cell g u1, keep_cell g u2, keep_cell g u3⟩)
                clear u0 u1 u2 u3 GC
                go_wp2_with fail
                go_cut [22, 23, 24] from 113 to 128 (fun s1 s2 s3 wx => ValCut3 wc zu ze zl zt q 0 s1 s2 s3 wx)
                case first =>
                  go_region_held3 (fun W => W.cell? ⟨w.heap.size, 0, none⟩ = some (.slice Ar t.roots.length cr) ∧ W.cell? ⟨w.heap.size, 1, none⟩ = some (.slice (some ⟨bb, off, none⟩) t.brs.length cb) ∧ W.cell? ⟨w.heap.size + 1, 0, none⟩ = some (.int .i64 vu) ∧ W.cell? ⟨w.heap.size + 1, 1, none⟩ = some (.int .i64 ve) ∧ W.cell? ⟨w.heap.size + 1, 2, none⟩ = some (.string vl) ∧ W.cell? ⟨w.heap.size + 1, 3, none⟩ = some (.string vt) ∧ W.cell? ⟨XB, 0, none⟩ = some (.int .i64 yi) ∧ Grew wc W) (refine heldB7 wc _ t0 t1 v0 v1 v2 v3 x0 (by repeat (with_reducible first | exact Grew.refl _ | exact GZ.out | exact GQ2.out | exact GQ1.out | refine Grew.drew ?_ | refine Grew.alloc ?_ _ | refine Grew.setCell ?_ (by first | exact Nat.le_refl _ | exact GZ.out.size | exact GQ2.out.size | exact GQ1.out.size | simp) _))) (first | (go_at_call 14; with_reducible refine (KCS.out _ (HG.out.trans (by repeat (with_reducible first | exact Grew.refl _ | refine Grew.drew ?_ | refine Grew.alloc ?_ _))) HF.out).mono ?_; rintro e wq1 ⟨A1, c1, rfl, h5, gq⟩; have GX := Lib.hid (show Grew wc wq1 from Grew.trans (by repeat (with_reducible first | exact Grew.refl _ | refine Grew.drew ?_ | refine Grew.alloc ?_ _)) gq); have GQ1 := Lib.hid (show Grew wc wq1 from GX.out); have HLS1_1 := Lib.hid h5; (try (have hdr : Grew (wc.alloc (.cells [.int .i64 0, .int .i64 0, .string ⟨#[]⟩, .string ⟨#[]⟩].toArray 29)).drew wq1 := (by with_reducible exact gq); have BX1 := Lib.hid (heap_keepI (Grew.trans (Grew.refl _).drew hdr) (heap_newI wc (.cells [.int .i64 0, .int .i64 0, .string ⟨#[]⟩, .string ⟨#[]⟩].toArray 29))))); (try (have hdr : Grew (wc.alloc (.cells [.int .i64 0, .int .i64 0, .string ⟨#[]⟩, .string ⟨#[]⟩].toArray 29)) wq1 := (by with_reducible exact gq); have BX1 := Lib.hid (heap_keepI hdr (heap_newI wc (.cells [.int .i64 0, .int .i64 0, .string ⟨#[]⟩, .string ⟨#[]⟩].toArray 29))))); clear h5 gq GX) | (go_at_call 15; with_reducible refine (clV _ _ _ (Hc.out.mono (GQ1.out.trans (by repeat (with_reducible first | exact Grew.refl _ | refine Grew.drew ?_ | refine Grew.alloc ?_ _)))) HLC.out).mono ?_; rintro e wq2 ⟨A2, c2, rfl, h5, gq⟩; have GX := Lib.hid (show Grew wq1 wq2 from Grew.trans (by repeat (with_reducible first | exact Grew.refl _ | refine Grew.drew ?_ | refine Grew.alloc ?_ _)) gq); have GQ2 := Lib.hid (show Grew wc wq2 from GQ1.out.trans GX.out); have HLS1_2 := Lib.hid (HLS1_1.out.mono GX.out); have HLS2_2 := Lib.hid h5; (try (have BX2 := Lib.hid (heap_keepI GX.out BX1.out))); (try (have hdr : Grew (wq1.alloc (.cells [.int .i64 0, .int .i64 0, .string ⟨#[]⟩, .string ⟨#[]⟩].toArray 29)).drew wq2 := (by with_reducible exact gq); have BX2 := Lib.hid (heap_keepI (Grew.trans (Grew.refl _).drew hdr) (heap_newI wq1 (.cells [.int .i64 0, .int .i64 0, .string ⟨#[]⟩, .string ⟨#[]⟩].toArray 29))))); (try (have hdr : Grew (wq1.alloc (.cells [.int .i64 0, .int .i64 0, .string ⟨#[]⟩, .string ⟨#[]⟩].toArray 29)) wq2 := (by with_reducible exact gq); have BX2 := Lib.hid (heap_keepI hdr (heap_newI wq1 (.cells [.int .i64 0, .int .i64 0, .string ⟨#[]⟩, .string ⟨#[]⟩].toArray 29))))); clear h5 gq GX) | (go_at_call 31; with_reducible refine (KF2.out _ _ _ (HG.out.trans (GQ2.out.trans (by repeat (with_reducible first | exact Grew.refl _ | refine Grew.drew ?_ | refine Grew.alloc ?_ _)))) (HLS1_2.out.mono (by repeat (with_reducible first | exact Grew.refl _ | refine Grew.drew ?_ | refine Grew.alloc ?_ _))) (HLS2_2.out.mono (by repeat (with_reducible first | exact Grew.refl _ | refine Grew.drew ?_ | refine Grew.alloc ?_ _))) HF.out).mono ?_; rintro e wz ⟨rfl, gq⟩; have GX := Lib.hid (show Grew wq2 wz from Grew.trans (by repeat (with_reducible first | exact Grew.refl _ | refine Grew.drew ?_ | refine Grew.alloc ?_ _)) gq); have GZ := Lib.hid (show Grew wc wz from GQ2.out.trans GX.out); (try (have BXZ := Lib.hid (heap_keepI GX.out BX2.out))); (try (have hdr : Grew (wq2.alloc (.cells [.int .i64 0, .int .i64 0, .string ⟨#[]⟩, .string ⟨#[]⟩].toArray 29)).drew wz := (by with_reducible exact gq); have BXZ := Lib.hid (heap_keepI (Grew.trans (Grew.refl _).drew hdr) (heap_newI wq2 (.cells [.int .i64 0, .int .i64 0, .string ⟨#[]⟩, .string ⟨#[]⟩].toArray 29))))); (try (have hdr : Grew (wq2.alloc (.cells [.int .i64 0, .int .i64 0, .string ⟨#[]⟩, .string ⟨#[]⟩].toArray 29)) wz := (by with_reducible exact gq); have BXZ := Lib.hid (heap_keepI hdr (heap_newI wq2 (.cells [.int .i64 0, .int .i64 0, .string ⟨#[]⟩, .string ⟨#[]⟩].toArray 29))))); (try (have qq := four_cells BXZ.out; obtain ⟨⟨q0, q1, q2, q3⟩, z0, z1, z2, z3⟩ := qq)); clear gq GX))
                  all_goals go_wp2_with fail
                  all_goals go_meet
                  all_goals with_reducible first | exact val3 (val_meet2 GZ.out) | exact val3 (val_meet q0 q1 q2 q3 (Nat.le_refl _) GZ.out) | exact val3 (val_meet q0 q1 q2 q3 GQ1.out.size GZ.out) | exact val3 (val_meet q0 q1 q2 q3 GQ2.out.size GZ.out)
                case rest =>
                  obtain ⟨⟨U2, rfl, rfl, u0, u1, u2, u3, GC⟩, rfl⟩ := hcut
                  have GR2 := Lib.hid GC.out
                  replace HG := Lib.hid (HG.out.trans GC.out)
                  replace HTB := Lib.hid (fun W gg => HTB.out W (Grew.trans GC.out gg))
                  replace HVB := Lib.hid (fun W gg => HVB.out W (Grew.trans GC.out gg))
                  replace Hn := Lib.hid (Hn.out.mono GC.out)
                  replace Hc := Lib.hid (Hc.out.mono GC.out)
                  replace HXB := Lib.hid (fun W gg => HXB.out W (Grew.trans GC.out gg))
                  replace HX1 := Lib.hid (fun W gg => HX1.out W (Grew.trans GC.out gg))
                  clear t0 t1
                  obtain ⟨t0, t1⟩ := HTB.out _ (Grew.refl _)
                  clear v0 v1 v2 v3
                  obtain ⟨v0, v1, v2, v3⟩ := HVB.out _ (Grew.refl _)
                  clear x0
                  have x0 := HXB.out _ (Grew.refl _)
                  have u0 := u0.out
                  have u1 := u1.out
                  have u2 := u2.out
                  have u3 := u3.out
                  have HX2 := Lib.hid (show ∀ W, Grew wc W → W.cell? ⟨U2, 0, none⟩ = some (.int .i64 zu) ∧ W.cell? ⟨U2, 1, none⟩ = some (.int .i64 ze) ∧ W.cell? ⟨U2, 2, none⟩ = some (.string zl) ∧ W.cell? ⟨U2, 3, none⟩ = some (.string zt) from fun W g => ⟨keep_cell g u0, keep_cell g u1, keep_cell g u2, keep_cell g u3⟩)
                  clear u0 u1 u2 u3 GC
                  obtain ⟨b10, b11, b12, b13⟩ := HX1.out _ (Grew.refl _)
                  obtain ⟨b20, b21, b22, b23⟩ := HX2.out _ (Grew.refl _)
                  have GE := Lib.hid (HGB.out.trans (GR1.out.trans GR2.out))
                  clear t0 t1 x0 v0 v1 v2 KF1 KF2
                  have hd : (((p != q) || (xt.toList != zt.toList)) && (xt.toList != vt.toList)) = false := by
                    rcases HOR.out with ⟨rfl, rfl⟩ | rfl
                    · cases p <;> simp
                    · simp
                  have HD := Lib.hid hd
                  clear hd HOR
                  generalize hc1 : (xt.toList == zt.toList) = c1
                  generalize hc2 : (xt.toList == vt.toList) = c2
                  have hdd : (((p != q) || !c1) && !c2) = false := by rw [← hc1, ← hc2]; exact HD.out
                  clear HD
                  have HEND := Lib.hid GE.out
                  cases p <;> cases q <;> cases c1 <;> cases c2 <;> first | (exfalso; revert hdd; decide) | (clear hdd; go_wp2; go_roundg (t.brs.length - (k + 1)); (case measure => omega); (case rel => exact ⟨k + 1, by omega, by omega, by go_num, (show Aside _ from HEND.out)⟩))
            · have hltz : ¬ (k : Int) < (t.brs.length : Int) := by omega
              obtain rfl : k = t.brs.length := by omega
              have HGE := Lib.hid (HG.out.trans GW.out)
              go_wp2
              go_ret
              exact ⟨rfl, HGE.out⟩
end Go.Proofs.YtjaknioojpgkiaaGreatDoor
