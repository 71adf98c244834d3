/- The law DescribeNormal, walked, its awake given. The condition: the library's own variables hold what they must. -/
import Derived.Test.YtjaknioojpgkiaaGreatDoorQ26
import Derived.Test.YtjaknioojpgkiaaGreatDoorQ35
import Derived.Test.YtjaknioojpgkiaaGreatDoorQ36
import Derived.Test.YtjaknioojpgkiaaGreatDoorQ3
namespace Go.Proofs.YtjaknioojpgkiaaGreatDoor
open Go.RowKit

theorem norm_two (t : Tr) (ls : List ByteArray) (vs : List Val) (wt : ByteArray) : ((normR t ls vs).2 ≠ 0 ∧ (normR t ls vs).1 = []) ∨ ((normR t ls vs).2 = 0 ∧ (normR t ls vs).1.length ≤ vs.length ∧ redR t ls (normR t ls vs).1 = ([], 0) ∧ normR t ls (normR t ls vs).1 = ((normR t ls vs).1, 0) ∧ (difR t t ls vs (normR t ls vs).1 wt).1 = [] ∧ ((difR t t ls vs (normR t ls vs).1 wt).2 = 0 ∨ (difR t t ls vs (normR t ls vs).1 wt).2 = 3) ∧ ∀ v ∈ (normR t ls vs).1, (vs.any fun y => decide (v = y)) = true) := by
  by_cases h : ofI t ls vs = 0
  · have e : normR t ls vs = (normF t vs, 0) := by unfold normR; rw [if_pos h]
    obtain ⟨hT, hR⟩ := ofI_zero.1 h
    have ho : ofI t ls (normF t vs) = 0 := ofI_zero.2 ⟨hT, normF_right hR⟩
    rw [e]
    obtain ⟨d1, d2⟩ := norm_dif h wt
    refine .inr ⟨rfl, (normF_sub t vs).length_le, ?_, ?_, d1, d2, fun v hv => List.any_eq_true.2 ⟨v, (normF_sub t vs).subset hv, by simp⟩⟩
    · show redR t ls (normF t vs) = _
      unfold redR
      rw [if_pos ho, norm_redF hT hR]
    · show normR t ls (normF t vs) = _
      unfold normR
      rw [if_pos ho, norm_norm hT hR]
  · have e : normR t ls vs = ([], 1) := by unfold normR; rw [if_neg h]
    rw [e]
    exact .inl ⟨by decide, rfl⟩
set_option maxHeartbeats 16000000 in
set_option maxRecDepth 100000 in
theorem dnormal_of (t : Tr) (ls : List ByteArray) (vs : List Val) (wt : ByteArray) (rv bv lv vv : Value) (w : World) (hE : Env w) (hr : SlI w rv t.roots) (hb : SlBr w bv t.brs) (hl : SlS w lv ls) (hvv : SlV w vv vs) (hA : ∀ W, Grew w W → Calls Tryz.prog 10 #[] W fun e w' => e = .returned (.bool true) ∧ Grew W w') :
    Calls Tryz.prog 5 #[.agg #[rv, bv], lv, vv, .string wt] w fun e w' => e = .returned (.bool true) ∧ Grew w w' := by
  have KA := Lib.hid hA
  have KW := Lib.hid (fun ms mv W (hW : Grew w W) (hm : SlS W mv ms) => fewLawD t ls vs ms rv bv lv vv mv W (hr.mono hW) (hb.mono hW) (hl.mono hW) (hvv.mono hW) hm)
  have KCS := Lib.hid (fun W (hW : Grew w W) (hf : FewI t ls vs) => clS ls lv W (hl.mono hW) hf.2.1)
  have KCV := Lib.hid (fun W (hW : Grew w W) (hf : FewI t ls vs) => clV vs vv W (hvv.mono hW) hf.2.2)
  have kN := fun lv' vv' W (hW : Grew w W) (hl' : SlS W lv' ls) (hv' : SlV W vv' vs) (hf : FewI t ls vs) => dNormal t ls vs rv bv lv' vv' W (hE.mono hW) (hr.mono hW) (hb.mono hW) hf.1.br hf.1.rs hl' hv' (by have := hf.2.2; omega)
  have kR := fun n (hn : n.length ≤ vs.length) => fun lv' vv' W (hW : Grew w W) (hl' : SlS W lv' ls) (hv' : SlV W vv' n) (hf : FewI t ls vs) => iRedX t ls n rv bv lv' vv' W (hE.mono hW) (hr.mono hW) (hb.mono hW) hf.1.br hf.1.rs hl' hv' (by have := hf.2.2; omega)
  have kM := fun n (hn : n.length ≤ vs.length) => fun lv' vv' W (hW : Grew w W) (hl' : SlS W lv' ls) (hv' : SlV W vv' n) (hf : FewI t ls vs) => dNormal t ls n rv bv lv' vv' W (hE.mono hW) (hr.mono hW) (hb.mono hW) hf.1.br hf.1.rs hl' hv' (by have := hf.2.2; omega)
  have kD := fun n (hn : n.length ≤ vs.length) lv' vv' nv' W (hW : Grew w W) (hl' : SlS W lv' ls) (hv' : SlV W vv' vs) (hn' : SlV W nv' n) (hf : FewI t ls vs) => dDiffer t t ls vs n wt rv bv rv bv lv' vv' nv' W (hE.mono hW) (hr.mono hW) (hb.mono hW) hf.1.br hf.1.rs (hr.mono hW) (hb.mono hW) hf.1.br hf.1.rs hl' hv' (by have := hf.2.2; omega) hn' (by have := hf.2.2; omega)
  have KCO := Lib.hid (fun x W (hW : Grew w W) => containsV vs x vv W (hvv.mono hW))
  have HTWO := Lib.hid (norm_two t ls vs wt)
  unfold RetVL at kN kM
  unfold RetNL at kR kD
  generalize normR t ls vs = R at kN HTWO
  obtain ⟨na, ne⟩ := R
  dsimp only at kN HTWO
  have KN := Lib.hid kN
  have KR := Lib.hid kR
  have KM := Lib.hid kM
  have KD := Lib.hid kD
  clear kN kR kM kD
  obtain ⟨Av, cv, rfl, -⟩ := hvv.open_
  obtain ⟨Ar, cr, rfl, -⟩ := hr.open_
  obtain ⟨Ab, cb, rfl, -⟩ := hb.open_
  clear hE hr hb hl hvv hA
  go_enter Tryz.func5, Tryz.ntmps5
  go_wp2_with fail
  refine (KA.out _ ((Grew.refl w).alloc _)).mono ?_
  rintro e wa ⟨rfl, ga⟩
  have t0 := new_cell ga 0 _ rfl
  have t1 := new_cell ga 1 _ rfl
  have HTB := Lib.hid (show ∀ W, Grew wa W → W.cell? ⟨w.heap.size, 0, none⟩ = some (.slice Ar t.roots.length cr) ∧ W.cell? ⟨w.heap.size, 1, none⟩ = some (.slice Ab t.brs.length cb) from fun W g => ⟨keep_cell g t0, keep_cell g t1⟩)
  have HG := Lib.hid (((Grew.refl w).alloc _).trans ga)
  clear ga
  dsimp only
  go_wp2_with fail
  refine (KW.out _ _ _ (HG.out.alloc _) (lit1S _ _)).mono ?_
  rintro e wb ⟨q, rfl, hq, gb⟩
  have HQ := Lib.hid hq
  have GB := Lib.hid (Grew.trans ((Grew.refl wa).alloc _) gb)
  clear hq gb
  replace HG := Lib.hid (HG.out.trans GB.out)
  replace HTB := Lib.hid (fun W gg => HTB.out W (Grew.trans GB.out gg))
  clear t0 t1
  obtain ⟨t0, t1⟩ := HTB.out _ (Grew.refl _)
  dsimp only
  cases q
  · clear HQ
    go_wp2_with fail
    refine (KA.out _ HG.out).mono ?_
    rintro e wz ⟨rfl, g3⟩
    have HG3 := Lib.hid (HG.out.trans g3)
    clear g3
    dsimp only
    go_wp2
    go_ret
    exact ⟨rfl, HG3.out⟩
  have HF := Lib.hid (HQ.out (by first | rfl | trivial))
  clear HQ
  go_wp2_with fail
  go_cut [9, 10] from 32 to 39 (fun s1 s2 wx => LvsCut wb na ne s1 s2 wx)
  case first =>
    go_region_held3 (fun W => W.cell? ⟨w.heap.size, 0, none⟩ = some (.slice Ar t.roots.length cr) ∧ W.cell? ⟨w.heap.size, 1, none⟩ = some (.slice Ab t.brs.length cb) ∧ Grew wb W) (refine heldI wb _ t0 t1 (by repeat (with_reducible first | exact Grew.refl _ | exact GZ.out | exact GQ2.out | exact GQ1.out | refine Grew.drew ?_ | refine Grew.alloc ?_ _ | refine Grew.setCell ?_ (by first | exact Nat.le_refl _ | exact GZ.out.size | exact GQ2.out.size | exact GQ1.out.size | simp) _))) (first | (go_at_call 14; with_reducible refine (KCS.out _ (HG.out.trans (by repeat (with_reducible first | exact Grew.refl _ | refine Grew.drew ?_ | refine Grew.alloc ?_ _))) HF.out).mono ?_; rintro e wq1 ⟨A1, c1, rfl, h5, gq⟩; have GX := Lib.hid (show Grew wb wq1 from Grew.trans (by repeat (with_reducible first | exact Grew.refl _ | refine Grew.drew ?_ | refine Grew.alloc ?_ _)) gq); have GQ1 := Lib.hid (show Grew wb wq1 from GX.out); have HLS1_1 := Lib.hid h5; clear h5 gq GX) | (go_at_call 15; with_reducible refine (KCV.out _ (HG.out.trans (GQ1.out.trans (by repeat (with_reducible first | exact Grew.refl _ | refine Grew.drew ?_ | refine Grew.alloc ?_ _)))) HF.out).mono ?_; rintro e wq2 ⟨A2, c2, rfl, h5, gq⟩; have GX := Lib.hid (show Grew wq1 wq2 from Grew.trans (by repeat (with_reducible first | exact Grew.refl _ | refine Grew.drew ?_ | refine Grew.alloc ?_ _)) gq); have GQ2 := Lib.hid (show Grew wb wq2 from GQ1.out.trans GX.out); have HLS1_2 := Lib.hid (HLS1_1.out.mono GX.out); have HLS2_2 := Lib.hid h5; clear h5 gq GX) | (go_at_call 13; with_reducible refine (KN.out _ _ _ (HG.out.trans (GQ2.out.trans (by repeat (with_reducible first | exact Grew.refl _ | refine Grew.drew ?_ | refine Grew.alloc ?_ _)))) (HLS1_2.out.mono (by repeat (with_reducible first | exact Grew.refl _ | refine Grew.drew ?_ | refine Grew.alloc ?_ _))) (HLS2_2.out.mono (by repeat (with_reducible first | exact Grew.refl _ | refine Grew.drew ?_ | refine Grew.alloc ?_ _))) HF.out).mono ?_; rintro e wz ⟨vq, rfl, ho, gq⟩; have GZ := Lib.hid (show Grew wb wz from GQ2.out.trans (Grew.trans (by repeat (with_reducible first | exact Grew.refl _ | refine Grew.drew ?_ | refine Grew.alloc ?_ _)) gq)); obtain ⟨Aq, cq, rfl⟩ := own_slice ho; have HO := Lib.hid (Rd.of_own ho); clear ho gq))
    all_goals go_wp2_with fail
    all_goals go_meet
    all_goals exact lvsC HO.out GZ.out
  case rest =>
    obtain ⟨⟨An, cn, rfl⟩, rfl, HLX, GC⟩ := hcut
    replace HG := Lib.hid (HG.out.trans GC.out)
    replace HTB := Lib.hid (fun W gg => HTB.out W (Grew.trans GC.out gg))
    clear t0 t1
    obtain ⟨t0, t1⟩ := HTB.out _ (Grew.refl _)
    have Hn := Lib.hid HLX.out
    clear HLX GC
    rcases HTWO.out with ⟨hne, hno⟩ | ⟨h0, hlen, hred, hnor, hdif, hde, hin⟩
    · subst hno
      have hb : (ne != 0) = true := by simpa using hne
      clear HTWO KN KR KM KD KCO t0 t1 hne
      go_wp2
      go_ret
      exact ⟨rfl, HG.out⟩
    subst h0
    have kr := KR.out na hlen
    have km := KM.out na hlen
    have kd := KD.out na hlen
    rw [hred] at kr
    rw [hnor] at km
    generalize difR t t ls vs na wt = D at kd hdif hde
    obtain ⟨da, de⟩ := D
    dsimp only at kr km kd hdif hde
    subst hdif
    obtain ⟨ra, hra⟩ : ∃ ra : List Int, ra = [] := ⟨_, rfl⟩
    rw [← hra] at kr
    obtain ⟨db, hdb⟩ : ∃ db : List Int, db = [] := ⟨_, rfl⟩
    rw [← hdb] at kd
    have KR2 := Lib.hid kr
    have KM2 := Lib.hid km
    have KD2 := Lib.hid kd
    have HLN := Lib.hid (show na.length ≤ 1025 by have := HF.out.2.2; omega)
    have HIN := Lib.hid hin
    have HDE := Lib.hid hde
    have HRA := Lib.hid hra
    have HDB := Lib.hid hdb
    clear kr km kd hlen hred hnor hde hin hra hdb HTWO KN KR KM KD
    go_wp2_with fail
    go_cut [11, 12] from 46 to 53 (fun s1 s2 wx => LisCut wc ra 0 s1 s2 wx)
    case first =>
      go_region_held3 (fun W => W.cell? ⟨w.heap.size, 0, none⟩ = some (.slice Ar t.roots.length cr) ∧ W.cell? ⟨w.heap.size, 1, none⟩ = some (.slice Ab t.brs.length cb) ∧ Grew wc W) (refine heldI wc _ t0 t1 (by repeat (with_reducible first | exact Grew.refl _ | exact GZ.out | exact GQ2.out | exact GQ1.out | refine Grew.drew ?_ | refine Grew.alloc ?_ _ | refine Grew.setCell ?_ (by first | exact Nat.le_refl _ | exact GZ.out.size | exact GQ2.out.size | exact GQ1.out.size | simp) _))) (first | (go_at_call 14; with_reducible refine (KCS.out _ (HG.out.trans (by repeat (with_reducible first | exact Grew.refl _ | refine Grew.drew ?_ | refine Grew.alloc ?_ _))) HF.out).mono ?_; rintro e wq1 ⟨A1, c1, rfl, h5, gq⟩; have GX := Lib.hid (show Grew wc wq1 from Grew.trans (by repeat (with_reducible first | exact Grew.refl _ | refine Grew.drew ?_ | refine Grew.alloc ?_ _)) gq); have GQ1 := Lib.hid (show Grew wc wq1 from GX.out); have HLS1_1 := Lib.hid h5; clear h5 gq GX) | (go_at_call 15; with_reducible refine (clV _ _ _ (Hn.out.mono (GQ1.out.trans (by repeat (with_reducible first | exact Grew.refl _ | refine Grew.drew ?_ | refine Grew.alloc ?_ _)))) HLN.out).mono ?_; rintro e wq2 ⟨A2, c2, rfl, h5, gq⟩; have GX := Lib.hid (show Grew wq1 wq2 from Grew.trans (by repeat (with_reducible first | exact Grew.refl _ | refine Grew.drew ?_ | refine Grew.alloc ?_ _)) gq); have GQ2 := Lib.hid (show Grew wc wq2 from GQ1.out.trans GX.out); have HLS1_2 := Lib.hid (HLS1_1.out.mono GX.out); have HLS2_2 := Lib.hid h5; clear h5 gq GX) | (go_at_call 27; with_reducible refine (KR2.out _ _ _ (HG.out.trans (GQ2.out.trans (by repeat (with_reducible first | exact Grew.refl _ | refine Grew.drew ?_ | refine Grew.alloc ?_ _)))) (HLS1_2.out.mono (by repeat (with_reducible first | exact Grew.refl _ | refine Grew.drew ?_ | refine Grew.alloc ?_ _))) (HLS2_2.out.mono (by repeat (with_reducible first | exact Grew.refl _ | refine Grew.drew ?_ | refine Grew.alloc ?_ _))) HF.out).mono ?_; rintro e wz ⟨vq, rfl, ho, gq⟩; have GZ := Lib.hid (show Grew wc wz from GQ2.out.trans (Grew.trans (by repeat (with_reducible first | exact Grew.refl _ | refine Grew.drew ?_ | refine Grew.alloc ?_ _)) gq)); obtain ⟨Aq, cq, rfl⟩ := own_slice ho; have HO := Lib.hid (Rd.of_own ho); clear ho gq))
      all_goals go_wp2_with fail
      all_goals go_meet
      all_goals exact lisC HO.out GZ.out
    case rest =>
      obtain ⟨⟨Ag, cg, rfl⟩, rfl, HLX, GC⟩ := hcut
      replace HG := Lib.hid (HG.out.trans GC.out)
      replace HTB := Lib.hid (fun W gg => HTB.out W (Grew.trans GC.out gg))
      replace Hn := Lib.hid (Hn.out.mono GC.out)
      clear t0 t1
      obtain ⟨t0, t1⟩ := HTB.out _ (Grew.refl _)
      have Hg := Lib.hid HLX.out
      clear HLX GC
      go_wp2_with fail
      go_cut [13, 14] from 55 to 62 (fun s1 s2 wx => LvsCut wc na 0 s1 s2 wx)
      case first =>
        go_region_held3 (fun W => W.cell? ⟨w.heap.size, 0, none⟩ = some (.slice Ar t.roots.length cr) ∧ W.cell? ⟨w.heap.size, 1, none⟩ = some (.slice Ab t.brs.length cb) ∧ Grew wc W) (refine heldI wc _ t0 t1 (by repeat (with_reducible first | exact Grew.refl _ | exact GZ.out | exact GQ2.out | exact GQ1.out | refine Grew.drew ?_ | refine Grew.alloc ?_ _ | refine Grew.setCell ?_ (by first | exact Nat.le_refl _ | exact GZ.out.size | exact GQ2.out.size | exact GQ1.out.size | simp) _))) (first | (go_at_call 14; with_reducible refine (KCS.out _ (HG.out.trans (by repeat (with_reducible first | exact Grew.refl _ | refine Grew.drew ?_ | refine Grew.alloc ?_ _))) HF.out).mono ?_; rintro e wq1 ⟨A1, c1, rfl, h5, gq⟩; have GX := Lib.hid (show Grew wc wq1 from Grew.trans (by repeat (with_reducible first | exact Grew.refl _ | refine Grew.drew ?_ | refine Grew.alloc ?_ _)) gq); have GQ1 := Lib.hid (show Grew wc wq1 from GX.out); have HLS1_1 := Lib.hid h5; clear h5 gq GX) | (go_at_call 15; with_reducible refine (clV _ _ _ (Hn.out.mono (GQ1.out.trans (by repeat (with_reducible first | exact Grew.refl _ | refine Grew.drew ?_ | refine Grew.alloc ?_ _)))) HLN.out).mono ?_; rintro e wq2 ⟨A2, c2, rfl, h5, gq⟩; have GX := Lib.hid (show Grew wq1 wq2 from Grew.trans (by repeat (with_reducible first | exact Grew.refl _ | refine Grew.drew ?_ | refine Grew.alloc ?_ _)) gq); have GQ2 := Lib.hid (show Grew wc wq2 from GQ1.out.trans GX.out); have HLS1_2 := Lib.hid (HLS1_1.out.mono GX.out); have HLS2_2 := Lib.hid h5; clear h5 gq GX) | (go_at_call 13; with_reducible refine (KM2.out _ _ _ (HG.out.trans (GQ2.out.trans (by repeat (with_reducible first | exact Grew.refl _ | refine Grew.drew ?_ | refine Grew.alloc ?_ _)))) (HLS1_2.out.mono (by repeat (with_reducible first | exact Grew.refl _ | refine Grew.drew ?_ | refine Grew.alloc ?_ _))) (HLS2_2.out.mono (by repeat (with_reducible first | exact Grew.refl _ | refine Grew.drew ?_ | refine Grew.alloc ?_ _))) HF.out).mono ?_; rintro e wz ⟨vq, rfl, ho, gq⟩; have GZ := Lib.hid (show Grew wc wz from GQ2.out.trans (Grew.trans (by repeat (with_reducible first | exact Grew.refl _ | refine Grew.drew ?_ | refine Grew.alloc ?_ _)) gq)); obtain ⟨Aq, cq, rfl⟩ := own_slice ho; have HO := Lib.hid (Rd.of_own ho); clear ho gq))
        all_goals go_wp2_with fail
        all_goals go_meet
        all_goals exact lvsC HO.out GZ.out
      case rest =>
        obtain ⟨⟨Am, cm, rfl⟩, rfl, HLX, GC⟩ := hcut
        replace HG := Lib.hid (HG.out.trans GC.out)
        replace HTB := Lib.hid (fun W gg => HTB.out W (Grew.trans GC.out gg))
        replace Hn := Lib.hid (Hn.out.mono GC.out)
        replace Hg := Lib.hid (Hg.out.mono GC.out)
        clear t0 t1
        obtain ⟨t0, t1⟩ := HTB.out _ (Grew.refl _)
        have Hm := Lib.hid HLX.out
        clear HLX GC
        go_wp2_with fail
        obtain ⟨An2, cn2, hvd, hlc, hc, hcr⟩ := Hn.out.open_
        injection hvd with v1 v2 v3
        subst v1 v3
        unfold maxLen at hc
        have HR := Lib.hid hcr
        clear hcr
        go_loopg [65] na.length (fun gg s65 wr => ∃ k : Nat, k ≤ na.length ∧ na.length - k ≤ gg ∧ s65 = .int .i64 (k : Int) ∧ Aside (Grew wc wr))
        case atStart => exact ⟨0, by omega, by omega, rfl, (show Aside _ from Grew.refl _)⟩
        case round =>
          obtain ⟨k, hk, hgk, rfl, GW⟩ := hrel
          clear t0 t1
          have HGW := Lib.hid (HG.out.trans GW.out)
          by_cases hlt : k < na.length
          · have hltz : (k : Int) < (na.length : Int) := by omega
            have h0z : (0 : Int) ≤ (k : Int) := by omega
            obtain ⟨bb, off, rfl, hbb, hcell⟩ := HR.out (by omega)
            obtain ⟨y0, y1, y2, y3⟩ := hcell wr GW.out k hlt
            have hi := HIN.out na[k] (List.getElem_mem hlt)
            have kc := KCO.out na[k]
            clear hcell hbb
            generalize na[k] = y at y0 y1 y2 y3 hi kc
            rw [hi] at kc
            obtain ⟨yu, ye, yl, yt⟩ := y
            unfold Val.agg at kc
            dsimp only at y0 y1 y2 y3 kc
            have KC := Lib.hid kc
            clear kc hi
            go_wp2_with fail
            refine (KC.out _ (HGW.out.alloc _)).mono ?_
            rintro e w6 ⟨rfl, g6⟩
            have G6 := Lib.hid ((GW.out.alloc _).trans g6)
            clear g6 KC
            dsimp only
            go_wp2
            go_roundg (na.length - (k + 1))
            case measure => omega
            case rel => exact ⟨k + 1, by omega, by omega, by go_num, (show Aside _ from G6.out)⟩
          · have hltz : ¬ (k : Int) < (na.length : Int) := by omega
            obtain rfl : k = na.length := by omega
            clear HR
            have t0 := (HTB.out _ GW.out).1
            have t1 := (HTB.out _ GW.out).2
            replace HG := Lib.hid (HG.out.trans GW.out)
            replace HTB := Lib.hid (fun W gg => HTB.out W (Grew.trans GW.out gg))
            replace Hn := Lib.hid (Hn.out.mono GW.out)
            replace Hg := Lib.hid (Hg.out.mono GW.out)
            replace Hm := Lib.hid (Hm.out.mono GW.out)
            clear t0 t1
            obtain ⟨t0, t1⟩ := HTB.out _ (Grew.refl _)
            clear HIN KCO HGW
            go_wp2_with fail
            go_cut [17, 18] from 75 to 86 (fun s1 s2 wx => LisCut wr db de s1 s2 wx)
            case first =>
              go_region_held3 (fun W => W.cell? ⟨w.heap.size, 0, none⟩ = some (.slice Ar t.roots.length cr) ∧ W.cell? ⟨w.heap.size, 1, none⟩ = some (.slice Ab t.brs.length cb) ∧ Grew wr W) (refine heldI wr _ t0 t1 (by repeat (with_reducible first | exact Grew.refl _ | exact GZ.out | exact GQ3.out | exact GQ2.out | exact GQ1.out | refine Grew.drew ?_ | refine Grew.alloc ?_ _ | refine Grew.setCell ?_ (by first | exact Nat.le_refl _ | exact GZ.out.size | exact GQ3.out.size | exact GQ2.out.size | exact GQ1.out.size | simp) _))) (first | (go_at_call 14; with_reducible refine (KCS.out _ (HG.out.trans (by repeat (with_reducible first | exact Grew.refl _ | refine Grew.drew ?_ | refine Grew.alloc ?_ _))) HF.out).mono ?_; rintro e wq1 ⟨A1, c1, rfl, h5, gq⟩; have GX := Lib.hid (show Grew wr wq1 from Grew.trans (by repeat (with_reducible first | exact Grew.refl _ | refine Grew.drew ?_ | refine Grew.alloc ?_ _)) gq); have GQ1 := Lib.hid (show Grew wr wq1 from GX.out); have HLS1_1 := Lib.hid h5; clear h5 gq GX) | (go_at_call 15; with_reducible refine (KCV.out _ (HG.out.trans (GQ1.out.trans (by repeat (with_reducible first | exact Grew.refl _ | refine Grew.drew ?_ | refine Grew.alloc ?_ _)))) HF.out).mono ?_; rintro e wq2 ⟨A2, c2, rfl, h5, gq⟩; have GX := Lib.hid (show Grew wq1 wq2 from Grew.trans (by repeat (with_reducible first | exact Grew.refl _ | refine Grew.drew ?_ | refine Grew.alloc ?_ _)) gq); have GQ2 := Lib.hid (show Grew wr wq2 from GQ1.out.trans GX.out); have HLS1_2 := Lib.hid (HLS1_1.out.mono GX.out); have HLS2_2 := Lib.hid h5; clear h5 gq GX) | (go_at_call 15; with_reducible refine (clV _ _ _ (Hn.out.mono (GQ2.out.trans (by repeat (with_reducible first | exact Grew.refl _ | refine Grew.drew ?_ | refine Grew.alloc ?_ _)))) HLN.out).mono ?_; rintro e wq3 ⟨A3, c3, rfl, h5, gq⟩; have GX := Lib.hid (show Grew wq2 wq3 from Grew.trans (by repeat (with_reducible first | exact Grew.refl _ | refine Grew.drew ?_ | refine Grew.alloc ?_ _)) gq); have GQ3 := Lib.hid (show Grew wr wq3 from GQ2.out.trans GX.out); have HLS1_3 := Lib.hid (HLS1_2.out.mono GX.out); have HLS2_3 := Lib.hid (HLS2_2.out.mono GX.out); have HLS3_3 := Lib.hid h5; clear h5 gq GX) | (go_at_call 22; with_reducible refine (KD2.out _ _ _ _ (HG.out.trans (GQ3.out.trans (by repeat (with_reducible first | exact Grew.refl _ | refine Grew.drew ?_ | refine Grew.alloc ?_ _)))) (HLS1_3.out.mono (by repeat (with_reducible first | exact Grew.refl _ | refine Grew.drew ?_ | refine Grew.alloc ?_ _))) (HLS2_3.out.mono (by repeat (with_reducible first | exact Grew.refl _ | refine Grew.drew ?_ | refine Grew.alloc ?_ _))) (HLS3_3.out.mono (by repeat (with_reducible first | exact Grew.refl _ | refine Grew.drew ?_ | refine Grew.alloc ?_ _))) HF.out).mono ?_; rintro e wz ⟨vq, rfl, ho, gq⟩; have GZ := Lib.hid (show Grew wr wz from GQ3.out.trans (Grew.trans (by repeat (with_reducible first | exact Grew.refl _ | refine Grew.drew ?_ | refine Grew.alloc ?_ _)) gq)); obtain ⟨Aq, cq, rfl⟩ := own_slice ho; have HO := Lib.hid (Rd.of_own ho); clear ho gq))
              all_goals go_wp2_with fail
              all_goals go_meet
              all_goals exact lisC HO.out GZ.out
            case rest =>
              obtain ⟨⟨Ad, cd, rfl⟩, rfl, HLX, GC⟩ := hcut
              replace HG := Lib.hid (HG.out.trans GC.out)
              replace HTB := Lib.hid (fun W gg => HTB.out W (Grew.trans GC.out gg))
              replace Hn := Lib.hid (Hn.out.mono GC.out)
              replace Hg := Lib.hid (Hg.out.mono GC.out)
              replace Hm := Lib.hid (Hm.out.mono GC.out)
              clear t0 t1
              obtain ⟨t0, t1⟩ := HTB.out _ (Grew.refl _)
              have Hd := Lib.hid HLX.out
              clear HLX GC
              have hl0 : ((ra.length : Int) == 0) = true := by rw [HRA.out]; rfl
              have hl1 : ((db.length : Int) == 0) = true := by rw [HDB.out]; rfl
              have KEQ := Lib.hid (equalV na na _ _ _ Hm.out Hn.out)
              rw [decide_eq_true (rfl : na = na)] at KEQ
              clear t0 t1
              rcases HDE.out with rfl | rfl
              · go_wp2_with fail
                refine KEQ.out.mono ?_
                rintro e w9 ⟨rfl, g9⟩
                have HGE := Lib.hid (HG.out.trans g9)
                clear g9 KEQ
                dsimp only
                go_wp2
                go_ret
                exact ⟨rfl, HGE.out⟩
              · go_wp2_with fail
                refine KEQ.out.mono ?_
                rintro e w9 ⟨rfl, g9⟩
                have HGE := Lib.hid (HG.out.trans g9)
                clear g9 KEQ
                dsimp only
                go_wp2
                go_ret
                exact ⟨rfl, HGE.out⟩
end Go.Proofs.YtjaknioojpgkiaaGreatDoor
