/- The law DescribeUnique, walked, its awake given. The condition: the library's own variables hold what they must. -/
import Derived.Test.YtjaknioojpgkiaaGreatDoorQ42
import Derived.Test.YtjaknioojpgkiaaGreatDoorQ43
import Derived.Test.YtjaknioojpgkiaaGreatDoorQ44
import Derived.Test.YtjaknioojpgkiaaGreatDoorQ25
import Derived.Test.YtjaknioojpgkiaaGreatDoorQ38
namespace Go.Proofs.YtjaknioojpgkiaaGreatDoor
open Go.RowKit

/-- Behind `x, ok, e := Found(..)`: the value lies in a box made since. -/
def ValCutB (W0 : World) (xu xe : Int) (xl xt : ByteArray) (s : Bool) (n : Int) (s1 s2 s3 : Value) (wx : World) : Prop := ∃ U, s1 = .pointer (some ⟨U, 0, none⟩) ∧ s2 = .bool s ∧ s3 = .int .i64 n ∧ Aside (wx.heap[U]? = some (.cells #[.int .i64 xu, .int .i64 xe, .string xl, .string xt] 29 (0, 0))) ∧ Aside (W0.heap.size ≤ U) ∧ Aside (Grew W0 wx)
theorem valB_meet {W0 W : World} {P : Nat} {xu xe : Int} {xl xt : ByteArray} {s : Bool} {n : Int} {x0 x1 x2 x3 : Value} (hb : W.heap[P]? = some (.cells [x0, x1, x2, x3].toArray 29 (0, 0))) (hP : W0.heap.size ≤ P) (g : Grew W0 W) :
    ValCutB W0 xu xe xl xt s n (.pointer (some ⟨P, 0, none⟩)) (.bool s) (.int .i64 n) ((((W.setCell ⟨P, 0, none⟩ (.int .i64 xu)).setCell ⟨P, 1, none⟩ (.int .i64 xe)).setCell ⟨P, 2, none⟩ (.string xl)).setCell ⟨P, 3, none⟩ (.string xt)) :=
  ⟨P, rfl, rfl, rfl, (show Aside _ from by
    have h0 := heap_setCell_same W P 0 _ _ (.int .i64 xu) hb
    have h1 := heap_setCell_same _ P 1 _ _ (.int .i64 xe) h0
    have h2 := heap_setCell_same _ P 2 _ _ (.string xl) h1
    have h3 := heap_setCell_same _ P 3 _ _ (.string xt) h2
    show _ = _
    simpa using h3), (show Aside _ from hP), (show Aside _ from grew_four g hP _ _ _ _)⟩
theorem valB_meet2 {W0 W : World} {xu xe : Int} {xl xt : ByteArray} {s : Bool} {n : Int} (g : Grew W0 W) :
    ValCutB W0 xu xe xl xt s n (.pointer (some ⟨W.heap.size, 0, none⟩)) (.bool s) (.int .i64 n) (W.alloc (.cells #[.int .i64 xu, .int .i64 xe, .string xl, .string xt] 29)) :=
  ⟨_, rfl, rfl, rfl, (show Aside _ from heap_newI W _), (show Aside _ from g.size), (show Aside _ from g.alloc _)⟩
theorem own_set {w : World} {base : Nat} {e : TypeId} {k : Nat} {v : Value} {n : Nat} {xs : List Value} (h : w.ownsRow base e k v n xs) {U j : Nat} (hne : v.ownBlock ≠ some U) (x : Value) : (w.setCell ⟨U, j, none⟩ x).ownsRow base e k v n xs :=
  h.kept (row := some U) ⟨rfl, rfl, rfl, by simp [World.setCell], fun q _ hq => Below.heap_setCell _ _ _ _ (fun e => hq (by simp [e]))⟩ (Or.inr hne)
theorem uniq_two (t : Tr) (ls : List ByteArray) (vs : List Val) : ((normR t ls vs).2 ≠ 0 ∧ (normR t ls vs).1 = []) ∨ ((normR t ls vs).2 = 0 ∧ RightT t ∧ vs.length ≤ 1024 ∧ RightV ls (normR t ls vs).1 ∧ (normR t ls vs).1.length ≤ vs.length ∧ ∀ y ∈ (normR t ls vs).1, redB t (normR t ls vs).1 y = false) := by
  by_cases h : ofI t ls vs = 0
  · have e : normR t ls vs = (normF t vs, 0) := by unfold normR; rw [if_pos h]
    obtain ⟨hT, hR⟩ := ofI_zero.1 h
    rw [e]
    exact .inr ⟨rfl, hT, hR.2.1, normF_right hR, (normF_sub t vs).length_le, fun y hy => norm_none hT hR hy⟩
  · have e : normR t ls vs = ([], 1) := by unfold normR; rw [if_neg h]
    rw [e]
    exact .inl ⟨by decide, rfl⟩
theorem found_zero2 {t : Tr} {ls : List ByteArray} {vs : List Val} {u n : Int} {lang : ByteArray} {o : Option Val} (h : foundR t ls vs u n lang = (o, 0)) : askI t ls vs u n lang = 0 ∧ foundF t.brs vs u n lang = o := by
  unfold foundR at h
  by_cases ha : askI t ls vs u n lang = 0
  · rw [if_pos ha] at h
    exact ⟨ha, congrArg Prod.fst h⟩
  · rw [if_neg ha] at h
    exact absurd (congrArg Prod.snd h) ha
theorem own_snocU {w : World} {B : Nat} {e : TypeId} {o : Value} {F : List Val} (x : Val) {cs : List Value} (hc : cs = x.cells) (h : w.ownsRow B e 4 o (F.length + 1) (F.flatMap Val.cells ++ cs)) : w.ownsRow B e 4 o (F ++ [x]).length ((F ++ [x]).flatMap Val.cells) := by
  subst hc
  simpa [List.flatMap_append] using h
set_option maxHeartbeats 16000000 in
set_option maxRecDepth 100000 in
theorem dunique_of (t : Tr) (ls : List ByteArray) (vs ms : List Val) (rv bv lv vv mv : Value) (w : World) (hE : Env w) (hr : SlI w rv t.roots) (hb : SlBr w bv t.brs) (hl : SlS w lv ls) (hvv : SlV w vv vs) (hmv : SlV w mv ms) (hA : ∀ W, Grew w W → Calls Tryz.prog 10 #[] W fun e w' => e = .returned (.bool true) ∧ Grew W w') :
    Calls Tryz.prog 9 #[.agg #[rv, bv], lv, vv, mv] w fun e w' => e = .returned (.bool true) ∧ Grew w w' := by
  have KA := Lib.hid hA
  have KW := Lib.hid (fun W (hW : Grew w W) => fewLawU t ls vs [] rv bv lv vv (.slice none 0 0) W (hr.mono hW) (hb.mono hW) (hl.mono hW) (hvv.mono hW) (Rd.nil _ 1))
  have KW2 := Lib.hid (fun W (hW : Grew w W) => few27q ls ms lv mv W (hl.mono hW) (hmv.mono hW))
  have KCS := Lib.hid (fun W (hW : Grew w W) (hf : FewI t ls vs) => clS ls lv W (hl.mono hW) hf.2.1)
  have KCV := Lib.hid (fun W (hW : Grew w W) (hf : FewI t ls vs) => clV vs vv W (hvv.mono hW) hf.2.2)
  have kN := fun lv' vv' W (hW : Grew w W) (hl' : SlS W lv' ls) (hv' : SlV W vv' vs) (hf : FewI t ls vs) => dNormal t ls vs rv bv lv' vv' W (hE.mono hW) (hr.mono hW) (hb.mono hW) hf.1.br hf.1.rs hl' hv' (by have := hf.2.2; omega)
  have kM := fun n (hn : n.length ≤ 1024) => fun lv' vv' W (hW : Grew w W) (hl' : SlS W lv' ls) (hv' : SlV W vv' n) (hf : FewI t ls vs) => dNormal t ls n rv bv lv' vv' W (hE.mono hW) (hr.mono hW) (hb.mono hW) hf.1.br hf.1.rs hl' hv' (by omega)
  have kF := fun n u e lg => fun lv' vv' W (hW : Grew w W) (hl' : SlS W lv' ls) (hv' : SlV W vv' n) (hf : FewI t ls vs) => iFoundX t ls n u e lg rv bv lv' vv' W (hE.mono hW) (hr.mono hW) (hb.mono hW) hf.1.br hf.1.rs hl' hv'
  have KG := Lib.hid (fun us u e lg s (hs : (getF us u e lg).isSome = s) v W (hv : SlV W v us) => get_is29 hs v W hv)
  have HTWO := Lib.hid (uniq_two t ls vs)
  unfold RetVL at kN kM
  unfold RetVE at kF
  generalize normR t ls vs = R at kN HTWO
  obtain ⟨na, ne⟩ := R
  dsimp only at kN HTWO
  have KN := Lib.hid kN
  have KM := Lib.hid kM
  have KF := Lib.hid kF
  clear kN kM kF
  obtain ⟨Am, cm, rfl, hml, hmc, hmr⟩ := hmv.open_
  unfold maxLen at hmc
  have HMR := Lib.hid hmr
  clear hmr
  obtain ⟨Av, cv, rfl, -⟩ := hvv.open_
  obtain ⟨Ar, cr, rfl, -⟩ := hr.open_
  obtain ⟨Ab, cb, rfl, -⟩ := hb.open_
  clear hE hr hb hl hvv hA
  clear hmv
  obtain ⟨i0, hi, hz0, hz1, hz2⟩ := info_parts cinfoV
  go_enter Tryz.func9, Tryz.ntmps9
  go_wp2_with fail
  refine (KA.out _ ((Grew.refl w).alloc _)).mono ?_
  rintro e wa ⟨rfl, ga⟩
  have t0 := new_cell ga 0 _ rfl
  have t1 := new_cell ga 1 _ rfl
  have HTB := Lib.hid (show ∀ W, Grew wa W → W.cell? ⟨w.heap.size, 0, none⟩ = some (.slice Ar t.roots.length cr) ∧ W.cell? ⟨w.heap.size, 1, none⟩ = some (.slice Ab t.brs.length cb) from fun W g => ⟨keep_cell g t0, keep_cell g t1⟩)
  have HG := Lib.hid (((Grew.refl w).alloc _).trans ga)
  clear ga
  dsimp only
  go_wp2_with fail
  refine (KW.out _ HG.out).mono ?_
  rintro e wb ⟨q, rfl, hq, gb⟩
  have HQ := Lib.hid hq
  have GB := Lib.hid gb
  clear hq gb
  replace HG := Lib.hid (HG.out.trans GB.out)
  replace HTB := Lib.hid (fun W gg => HTB.out W (Grew.trans GB.out gg))
  clear t0 t1
  obtain ⟨t0, t1⟩ := HTB.out _ (Grew.refl _)
  dsimp only
  cases q
  · clear HQ
    go_wp2_with fail
    refine (KA.out _ HG.out).mono ?_
    rintro e wz ⟨rfl, g3⟩
    have HG3 := Lib.hid (HG.out.trans g3)
    clear g3
    dsimp only
    go_wp2
    go_ret
    exact ⟨rfl, HG3.out⟩
  have HFU := Lib.hid (HQ.out (by first | rfl | trivial))
  have HF := Lib.hid HFU.out.1
  clear HQ
  go_wp2_with fail
  refine (KW2.out _ HG.out).mono ?_
  rintro e wd ⟨q, rfl, gd⟩
  have GD := Lib.hid gd
  clear gd
  replace HG := Lib.hid (HG.out.trans GD.out)
  replace HTB := Lib.hid (fun W gg => HTB.out W (Grew.trans GD.out gg))
  clear t0 t1
  obtain ⟨t0, t1⟩ := HTB.out _ (Grew.refl _)
  dsimp only
  cases q
  · clear KW
    go_wp2_with fail
    refine (KA.out _ HG.out).mono ?_
    rintro e wz ⟨rfl, g3⟩
    have HG3 := Lib.hid (HG.out.trans g3)
    clear g3
    dsimp only
    go_wp2
    go_ret
    exact ⟨rfl, HG3.out⟩
  by_cases hm12 : 12 < ms.length
  · have hm12z : (12 : Int) < (ms.length : Int) := by omega
    go_wp2_with fail
    refine (KA.out _ HG.out).mono ?_
    rintro e wz ⟨rfl, g3⟩
    have HG3 := Lib.hid (HG.out.trans g3)
    clear g3
    dsimp only
    go_wp2
    go_ret
    exact ⟨rfl, HG3.out⟩
  have hm12z : decide ((12 : Int) < (ms.length : Int)) = false := by simp; omega
  go_wp2_with fail
  go_cut [9, 10] from 43 to 50 (fun s1 s2 wx => LvsCut wd na ne s1 s2 wx)
  case first =>
    go_region_held3 (fun W => W.cell? ⟨w.heap.size, 0, none⟩ = some (.slice Ar t.roots.length cr) ∧ W.cell? ⟨w.heap.size, 1, none⟩ = some (.slice Ab t.brs.length cb) ∧ Grew wd W) (refine heldI wd _ t0 t1 (by repeat (with_reducible first | exact Grew.refl _ | exact GZ.out | exact GQ2.out | exact GQ1.out | refine Grew.drew ?_ | refine Grew.alloc ?_ _ | refine Grew.setCell ?_ (by first | exact Nat.le_refl _ | exact GZ.out.size | exact GQ2.out.size | exact GQ1.out.size | simp) _))) (first | (go_at_call 14; with_reducible refine (KCS.out _ (HG.out.trans (by repeat (with_reducible first | exact Grew.refl _ | refine Grew.drew ?_ | refine Grew.alloc ?_ _))) HF.out).mono ?_; rintro e wq1 ⟨A1, c1, rfl, h5, gq⟩; have GX := Lib.hid (show Grew wd wq1 from Grew.trans (by repeat (with_reducible first | exact Grew.refl _ | refine Grew.drew ?_ | refine Grew.alloc ?_ _)) gq); have GQ1 := Lib.hid (show Grew wd wq1 from GX.out); have HLS1_1 := Lib.hid h5; clear h5 gq GX) | (go_at_call 15; with_reducible refine (KCV.out _ (HG.out.trans (GQ1.out.trans (by repeat (with_reducible first | exact Grew.refl _ | refine Grew.drew ?_ | refine Grew.alloc ?_ _)))) HF.out).mono ?_; rintro e wq2 ⟨A2, c2, rfl, h5, gq⟩; have GX := Lib.hid (show Grew wq1 wq2 from Grew.trans (by repeat (with_reducible first | exact Grew.refl _ | refine Grew.drew ?_ | refine Grew.alloc ?_ _)) gq); have GQ2 := Lib.hid (show Grew wd wq2 from GQ1.out.trans GX.out); have HLS1_2 := Lib.hid (HLS1_1.out.mono GX.out); have HLS2_2 := Lib.hid h5; clear h5 gq GX) | (go_at_call 13; with_reducible refine (KN.out _ _ _ (HG.out.trans (GQ2.out.trans (by repeat (with_reducible first | exact Grew.refl _ | refine Grew.drew ?_ | refine Grew.alloc ?_ _)))) (HLS1_2.out.mono (by repeat (with_reducible first | exact Grew.refl _ | refine Grew.drew ?_ | refine Grew.alloc ?_ _))) (HLS2_2.out.mono (by repeat (with_reducible first | exact Grew.refl _ | refine Grew.drew ?_ | refine Grew.alloc ?_ _))) HF.out).mono ?_; rintro e wz ⟨vq, rfl, ho, gq⟩; have GZ := Lib.hid (show Grew wd wz from GQ2.out.trans (Grew.trans (by repeat (with_reducible first | exact Grew.refl _ | refine Grew.drew ?_ | refine Grew.alloc ?_ _)) gq)); obtain ⟨Aq, cq, rfl⟩ := own_slice ho; have HO := Lib.hid (Rd.of_own ho); clear ho gq))
    all_goals go_wp2_with fail
    all_goals go_meet
    all_goals exact lvsC HO.out GZ.out
  case rest =>
    obtain ⟨⟨An, cn, rfl⟩, rfl, HLX, GC⟩ := hcut
    replace HG := Lib.hid (HG.out.trans GC.out)
    replace HTB := Lib.hid (fun W gg => HTB.out W (Grew.trans GC.out gg))
    clear t0 t1
    obtain ⟨t0, t1⟩ := HTB.out _ (Grew.refl _)
    have Hn := Lib.hid HLX.out
    clear HLX GC
    rcases HTWO.out with ⟨hne, hno⟩ | ⟨h0, hT, hvl, hRn, hnl, hred⟩
    · subst hno
      have hb : (ne != 0) = true := by simpa using hne
      clear HTWO KN KM KF KG t0 t1 hne
      go_wp2
      go_ret
      exact ⟨rfl, HG.out⟩
    subst h0
    have hn30 : na.length ≤ 30 := by have := HFU.out.2; omega
    have HT := Lib.hid hT
    have HRN := Lib.hid hRn
    have HRED := Lib.hid hred
    have HLN := Lib.hid (show na.length ≤ 1025 by omega)
    have HNR := Lib.hid (fun W (h : WideOk t ls na W) => wide_normR hT h hRn hred)
    clear hT hRn hred hvl hnl HTWO KN HFU
    go_wp2_with fail
    obtain ⟨wB, hwB⟩ : ∃ z, z = wc := ⟨_, rfl⟩
    subst hwB
    have HG0 := Lib.hid HG.out
    have HTB0 := Lib.hid (fun W gg => HTB.out W gg)
    have Hn0 := Lib.hid Hn.out
    refine (cloneV na _ _ Hn.out (by omega)).mono ?_
    rintro e w6 ⟨v6, rfl, ho6, g6⟩
    have HOB := Lib.hid ho6
    have GQ6 := Lib.hid g6
    obtain ⟨A6, c6, rfl⟩ := own_slice ho6
    clear ho6 g6
    skip
    replace HG := Lib.hid (HG.out.trans GQ6.out)
    replace HTB := Lib.hid (fun W gg => HTB.out W (Grew.trans GQ6.out gg))
    replace Hn := Lib.hid (Hn.out.mono GQ6.out)
    clear t0 t1
    obtain ⟨t0, t1⟩ := HTB.out _ (Grew.refl _)
    dsimp only
    go_wp2_with fail
    go_loopg [11, 60] ms.length (fun gg s11 s60 wr => ∃ (k : Nat) (W : List Val), k ≤ ms.length ∧ ms.length - k ≤ gg ∧ s60 = .int .i64 (k : Int) ∧ Aside (WideOk t ls na W) ∧ Aside (W.length ≤ na.length + k) ∧ Aside (wr.ownsRow wB.heap.size 29 4 s11 W.length (W.flatMap Val.cells)) ∧ Aside (Grew wB wr))
    case atStart => exact ⟨0, na, by omega, by omega, rfl, (show Aside _ from WideOk.start HRN.out), (show Aside _ from Nat.le_refl _), (show Aside _ from HOB.out), (show Aside _ from GQ6.out)⟩
    case round =>
      obtain ⟨k, W, hk, hgk, rfl, HWO, HWL, OW, GW⟩ := hrel
      obtain ⟨Aw, cw, rfl⟩ := own_slice OW.out
      have hwl : W.length ≤ na.length + k := HWL.out
      by_cases hlt : k < ms.length
      · have hltz : (k : Int) < (ms.length : Int) := by omega
        have h0z : (0 : Int) ≤ (k : Int) := by omega
        have HOW := Lib.hid OW.out
        have HGB := Lib.hid GW.out
        clear t0 t1
        replace HG := Lib.hid (HG0.out.trans GW.out)
        replace HTB := Lib.hid (fun W gg => HTB0.out W (GW.out.trans gg))
        replace Hn := Lib.hid (Hn0.out.mono GW.out)
        obtain ⟨t0, t1⟩ := HTB.out _ (Grew.refl _)
        obtain ⟨bb, off, rfl, hbb, hcell⟩ := HMR.out (by omega)
        obtain ⟨y0, y1, y2, y3⟩ := hcell wr HG.out k hlt
        have kf := fun n => KF.out n ms[k].unit ms[k].elem ms[k].lang
        clear hcell hbb
        generalize ms[k] = y at y0 y1 y2 y3 kf
        obtain ⟨yu, ye, yl, yt⟩ := y
        dsimp only at y0 y1 y2 y3 kf
        have kf2 := kf na
        generalize hfr : foundR t ls na yu ye yl = R at kf2
        obtain ⟨ro, re⟩ := R
        dsimp only at kf2
        have HFR := Lib.hid hfr
        generalize hrs : ro.isSome = rs at kf2
        generalize hrx : ro.getD val0 = x at kf2
        obtain ⟨xu, xe, xl, xt⟩ := x
        unfold Val.agg at kf2
        dsimp only at kf2
        have KF2 := Lib.hid kf2
        clear kf kf2 hfr
        have GB := Lib.hid ((Grew.refl wr).alloc (.cells #[.int .i64 yu, .int .i64 ye, .string yl, .string yt] 29))
        obtain ⟨⟨v0, v1, v2, v3⟩, -⟩ := four_cells (heap_newI wr (.cells #[.int .i64 yu, .int .i64 ye, .string yl, .string yt] 29))
        have HVB := Lib.hid (show ∀ W, Grew (wr.alloc (.cells #[.int .i64 yu, .int .i64 ye, .string yl, .string yt] 29)) W → W.cell? ⟨wr.heap.size, 0, none⟩ = some (.int .i64 yu) ∧ W.cell? ⟨wr.heap.size, 1, none⟩ = some (.int .i64 ye) ∧ W.cell? ⟨wr.heap.size, 2, none⟩ = some (.string yl) ∧ W.cell? ⟨wr.heap.size, 3, none⟩ = some (.string yt) from fun W g => ⟨keep_cell g v0, keep_cell g v1, keep_cell g v2, keep_cell g v3⟩)
        replace HG := Lib.hid (HG.out.trans GB.out)
        replace HTB := Lib.hid (fun W gg => HTB.out W (Grew.trans GB.out gg))
        replace Hn := Lib.hid (Hn.out.mono GB.out)
        replace HOW := Lib.hid (own_keep HOW.out GB.out)
        replace HGB := Lib.hid (HGB.out.trans GB.out)
        clear t0 t1
        obtain ⟨t0, t1⟩ := HTB.out _ (Grew.refl _)
        go_wp2_with fail
        generalize hwy : wr.alloc (.cells #[.int .i64 yu, .int .i64 ye, .string yl, .string yt] 29) = wy at HG HTB HVB t0 t1 v0 v1 v2 v3 Hn HOW HGB GB ⊢
        have hxb : wr.heap.size < wy.heap.size := by rw [← hwy]; simp
        have HSZ := Lib.hid (show ∀ g, (Value.slice Aw W.length cw).ownBlock = some g → g < wy.heap.size from fun g e => by have := (OW.out.lt g e).2; omega)
        have HWY := Lib.hid HGB.out.size
        generalize wr.heap.size = XB at HVB v0 v1 v2 v3 hxb ⊢
        clear hwy GB y0 y1 y2 y3 hxb
        go_cut [14, 15, 16] from 65 to 79 (fun s1 s2 s3 wx => ValCutB wy xu xe xl xt rs re s1 s2 s3 wx)
        case first =>
          go_region_held3 (fun W => W.cell? ⟨w.heap.size, 0, none⟩ = some (.slice Ar t.roots.length cr) ∧ W.cell? ⟨w.heap.size, 1, none⟩ = some (.slice Ab t.brs.length cb) ∧ W.cell? ⟨XB, 0, none⟩ = some (.int .i64 yu) ∧ W.cell? ⟨XB, 1, none⟩ = some (.int .i64 ye) ∧ W.cell? ⟨XB, 2, none⟩ = some (.string yl) ∧ W.cell? ⟨XB, 3, none⟩ = some (.string yt) ∧ Grew wy W) (refine held6 wy _ t0 t1 v0 v1 v2 v3 (by repeat (with_reducible first | exact Grew.refl _ | exact GZ.out | exact GQ2.out | exact GQ1.out | refine Grew.drew ?_ | refine Grew.alloc ?_ _ | refine Grew.setCell ?_ (by first | exact Nat.le_refl _ | exact GZ.out.size | exact GQ2.out.size | exact GQ1.out.size | simp) _))) (first | (go_at_call 14; with_reducible refine (KCS.out _ (HG.out.trans (by repeat (with_reducible first | exact Grew.refl _ | refine Grew.drew ?_ | refine Grew.alloc ?_ _))) HF.out).mono ?_; rintro e wq1 ⟨A1, c1, rfl, h5, gq⟩; have GX := Lib.hid (show Grew wy wq1 from Grew.trans (by repeat (with_reducible first | exact Grew.refl _ | refine Grew.drew ?_ | refine Grew.alloc ?_ _)) gq); have GQ1 := Lib.hid (show Grew wy wq1 from GX.out); have HLS1_1 := Lib.hid h5; (try (have hdr : Grew (wy.alloc (.cells [.int .i64 0, .int .i64 0, .string ⟨#[]⟩, .string ⟨#[]⟩].toArray 29)).drew wq1 := (by with_reducible exact gq); have BX1 := Lib.hid (heap_keepI (Grew.trans (Grew.refl _).drew hdr) (heap_newI wy (.cells [.int .i64 0, .int .i64 0, .string ⟨#[]⟩, .string ⟨#[]⟩].toArray 29))))); (try (have hdr : Grew (wy.alloc (.cells [.int .i64 0, .int .i64 0, .string ⟨#[]⟩, .string ⟨#[]⟩].toArray 29)) wq1 := (by with_reducible exact gq); have BX1 := Lib.hid (heap_keepI hdr (heap_newI wy (.cells [.int .i64 0, .int .i64 0, .string ⟨#[]⟩, .string ⟨#[]⟩].toArray 29))))); clear h5 gq GX) | (go_at_call 15; with_reducible refine (clV _ _ _ (Hn.out.mono (GQ1.out.trans (by repeat (with_reducible first | exact Grew.refl _ | refine Grew.drew ?_ | refine Grew.alloc ?_ _)))) HLN.out).mono ?_; rintro e wq2 ⟨A2, c2, rfl, h5, gq⟩; have GX := Lib.hid (show Grew wq1 wq2 from Grew.trans (by repeat (with_reducible first | exact Grew.refl _ | refine Grew.drew ?_ | refine Grew.alloc ?_ _)) gq); have GQ2 := Lib.hid (show Grew wy wq2 from GQ1.out.trans GX.out); have HLS1_2 := Lib.hid (HLS1_1.out.mono GX.out); have HLS2_2 := Lib.hid h5; (try (have BX2 := Lib.hid (heap_keepI GX.out BX1.out))); (try (have hdr : Grew (wq1.alloc (.cells [.int .i64 0, .int .i64 0, .string ⟨#[]⟩, .string ⟨#[]⟩].toArray 29)).drew wq2 := (by with_reducible exact gq); have BX2 := Lib.hid (heap_keepI (Grew.trans (Grew.refl _).drew hdr) (heap_newI wq1 (.cells [.int .i64 0, .int .i64 0, .string ⟨#[]⟩, .string ⟨#[]⟩].toArray 29))))); (try (have hdr : Grew (wq1.alloc (.cells [.int .i64 0, .int .i64 0, .string ⟨#[]⟩, .string ⟨#[]⟩].toArray 29)) wq2 := (by with_reducible exact gq); have BX2 := Lib.hid (heap_keepI hdr (heap_newI wq1 (.cells [.int .i64 0, .int .i64 0, .string ⟨#[]⟩, .string ⟨#[]⟩].toArray 29))))); clear h5 gq GX) | (go_at_call 31; with_reducible refine (KF2.out _ _ _ (HG.out.trans (GQ2.out.trans (by repeat (with_reducible first | exact Grew.refl _ | refine Grew.drew ?_ | refine Grew.alloc ?_ _)))) (HLS1_2.out.mono (by repeat (with_reducible first | exact Grew.refl _ | refine Grew.drew ?_ | refine Grew.alloc ?_ _))) (HLS2_2.out.mono (by repeat (with_reducible first | exact Grew.refl _ | refine Grew.drew ?_ | refine Grew.alloc ?_ _))) HF.out).mono ?_; rintro e wz ⟨rfl, gq⟩; have GX := Lib.hid (show Grew wq2 wz from Grew.trans (by repeat (with_reducible first | exact Grew.refl _ | refine Grew.drew ?_ | refine Grew.alloc ?_ _)) gq); have GZ := Lib.hid (show Grew wy wz from GQ2.out.trans GX.out); (try (have BXZ := Lib.hid (heap_keepI GX.out BX2.out))); (try (have hdr : Grew (wq2.alloc (.cells [.int .i64 0, .int .i64 0, .string ⟨#[]⟩, .string ⟨#[]⟩].toArray 29)).drew wz := (by with_reducible exact gq); have BXZ := Lib.hid (heap_keepI (Grew.trans (Grew.refl _).drew hdr) (heap_newI wq2 (.cells [.int .i64 0, .int .i64 0, .string ⟨#[]⟩, .string ⟨#[]⟩].toArray 29))))); (try (have hdr : Grew (wq2.alloc (.cells [.int .i64 0, .int .i64 0, .string ⟨#[]⟩, .string ⟨#[]⟩].toArray 29)) wz := (by with_reducible exact gq); have BXZ := Lib.hid (heap_keepI hdr (heap_newI wq2 (.cells [.int .i64 0, .int .i64 0, .string ⟨#[]⟩, .string ⟨#[]⟩].toArray 29))))); (try (have qq := four_cells BXZ.out; obtain ⟨⟨q0, q1, q2, q3⟩, z0, z1, z2, z3⟩ := qq)); clear gq GX))
          all_goals go_wp2_with fail
          all_goals go_meet
          all_goals with_reducible first | exact valB_meet2 GZ.out | exact valB_meet BXZ.out (Nat.le_refl _) GZ.out | exact valB_meet BXZ.out GQ1.out.size GZ.out | exact valB_meet BXZ.out GQ2.out.size GZ.out
        case rest =>
          obtain ⟨U1, rfl, rfl, rfl, hub, hul, GC⟩ := hcut
          have HUB := Lib.hid hub.out
          have HUL := Lib.hid hul.out
          have GR1 := Lib.hid GC.out
          replace HG := Lib.hid (HG.out.trans GC.out)
          replace HTB := Lib.hid (fun W gg => HTB.out W (Grew.trans GC.out gg))
          replace Hn := Lib.hid (Hn.out.mono GC.out)
          replace HOW := Lib.hid (own_keep HOW.out GC.out)
          replace HGB := Lib.hid (HGB.out.trans GC.out)
          replace HVB := Lib.hid (fun W gg => HVB.out W (Grew.trans GC.out gg))
          clear t0 t1
          obtain ⟨t0, t1⟩ := HTB.out _ (Grew.refl _)
          clear v0 v1 v2 v3
          obtain ⟨v0, v1, v2, v3⟩ := HVB.out _ (Grew.refl _)
          obtain ⟨⟨u0, u1, u2, u3⟩, -⟩ := four_cells hub.out
          clear hub hul
          have HX1 := Lib.hid (show ∀ W, Grew wc W → W.cell? ⟨U1, 0, none⟩ = some (.int .i64 xu) ∧ W.cell? ⟨U1, 1, none⟩ = some (.int .i64 xe) ∧ W.cell? ⟨U1, 2, none⟩ = some (.string xl) ∧ W.cell? ⟨U1, 3, none⟩ = some (.string xt) from fun W g => ⟨keep_cell g u0, keep_cell g u1, keep_cell g u2, keep_cell g u3⟩)
          clear u0 u1 u2 u3 GC
          obtain ⟨b10, b11, b12, b13⟩ := HX1.out _ (Grew.refl _)
          by_cases hre : re = 0
          case neg =>
            have hrb : (re != 0) = true := by simpa using hre
            clear KF2 HFR hre
            go_wp2
            go_roundg (ms.length - (k + 1))
            case measure => omega
            case rel => exact ⟨k + 1, W, by omega, by omega, by go_num, (show Aside _ from HWO.out), (show Aside _ from by show _ ≤ _; omega), (show Aside _ from HOW.out), (show Aside _ from HGB.out)⟩
          subst hre
          obtain ⟨hask, hff⟩ := found_zero2 HFR.out
          clear HFR KF2
          cases ro with
          | none =>
            obtain rfl : rs = false := hrs.symm
            clear hrs hrx hask hff
            go_wp2
            go_roundg (ms.length - (k + 1))
            case measure => omega
            case rel => exact ⟨k + 1, W, by omega, by omega, by go_num, (show Aside _ from HWO.out), (show Aside _ from by show _ ≤ _; omega), (show Aside _ from HOW.out), (show Aside _ from HGB.out)⟩
          | some z =>
            obtain rfl : rs = true := hrs.symm
            obtain rfl : z = ⟨xu, xe, xl, xt⟩ := hrx
            clear hrs
            have HASK := Lib.hid hask
            have HFF := Lib.hid hff
            clear hask hff
            have KIN := Lib.hid (fun W => inherited_any ye W)
            generalize hinh : (kindOf ye).inh = inh at KIN
            go_wp2_with fail
            refine (KIN.out _).mono ?_
            rintro e w7 ⟨rfl, g7⟩
            have GQ7 := Lib.hid g7
            clear g7 KIN b10 b11 b12 b13
            replace HG := Lib.hid (HG.out.trans GQ7.out)
            replace HTB := Lib.hid (fun W gg => HTB.out W (Grew.trans GQ7.out gg))
            replace Hn := Lib.hid (Hn.out.mono GQ7.out)
            replace HOW := Lib.hid (own_keep HOW.out GQ7.out)
            replace HGB := Lib.hid (HGB.out.trans GQ7.out)
            replace HVB := Lib.hid (fun W gg => HVB.out W (Grew.trans GQ7.out gg))
            replace HX1 := Lib.hid (fun W gg => HX1.out W (Grew.trans GQ7.out gg))
            clear t0 t1
            obtain ⟨t0, t1⟩ := HTB.out _ (Grew.refl _)
            clear v0 v1 v2 v3
            obtain ⟨v0, v1, v2, v3⟩ := HVB.out _ (Grew.refl _)
            replace HUB := Lib.hid (heap_keepI GQ7.out HUB.out)
            obtain ⟨b10, b11, b12, b13⟩ := HX1.out _ (Grew.refl _)
            dsimp only
            cases inh with
            | false =>
              clear HASK HFF hinh
              go_wp2
              go_roundg (ms.length - (k + 1))
              case measure => omega
              case rel => exact ⟨k + 1, W, by omega, by omega, by go_num, (show Aside _ from HWO.out), (show Aside _ from by show _ ≤ _; omega), (show Aside _ from HOW.out), (show Aside _ from HGB.out)⟩
            | true =>
              by_cases hxy : xu = yu
              case pos =>
                have hxyb : (xu == yu) = true := by simpa using hxy
                clear HASK HFF hinh hxy
                go_wp2
                go_roundg (ms.length - (k + 1))
                case measure => omega
                case rel => exact ⟨k + 1, W, by omega, by omega, by go_num, (show Aside _ from HWO.out), (show Aside _ from by show _ ≤ _; omega), (show Aside _ from HOW.out), (show Aside _ from HGB.out)⟩
              have hxyb : (xu == yu) = false := by simpa using hxy
              have HINH := Lib.hid hinh
              clear hxy hinh
              obtain ⟨s, hs⟩ : ∃ s, (getF W yu ye yl).isSome = s := ⟨_, rfl⟩
              have KG2 := Lib.hid (KG.out W yu ye yl s hs)
              have HWR := Lib.hid (show SlV _ _ W from Rd.of_own HOW.out)
              have HLW := Lib.hid (show W.length ≤ 1025 by omega)
              go_wp2_with fail
              go_cut [17, 18] from 99 to 110 (fun s17 s18 wx => (∃ x, s17 = .string x) ∧ s18 = .bool s ∧ Aside (Grew w7 wx))
              case first =>
                go_region_held3 (fun W => W.cell? ⟨w.heap.size, 0, none⟩ = some (.slice Ar t.roots.length cr) ∧ W.cell? ⟨w.heap.size, 1, none⟩ = some (.slice Ab t.brs.length cb) ∧ W.cell? ⟨XB, 0, none⟩ = some (.int .i64 yu) ∧ W.cell? ⟨XB, 1, none⟩ = some (.int .i64 ye) ∧ W.cell? ⟨XB, 2, none⟩ = some (.string yl) ∧ W.cell? ⟨XB, 3, none⟩ = some (.string yt) ∧ Grew w7 W) (refine held6 w7 _ t0 t1 v0 v1 v2 v3 (by repeat (with_reducible first | exact Grew.refl _ | exact GZ.out | exact GQ1.out | refine Grew.drew ?_ | refine Grew.alloc ?_ _ | refine Grew.setCell ?_ (by first | exact Nat.le_refl _ | exact GZ.out.size | exact GQ1.out.size | simp) _))) (first | (go_at_call 15; with_reducible refine (clV _ _ _ (HWR.out.mono (by repeat (with_reducible first | exact Grew.refl _ | refine Grew.drew ?_ | refine Grew.alloc ?_ _))) HLW.out).mono ?_; rintro e wq1 ⟨A7, c7, rfl, h7, gq⟩; have GQ1 := Lib.hid (show Grew w7 wq1 from Grew.trans (by repeat (with_reducible first | exact Grew.refl _ | refine Grew.drew ?_ | refine Grew.alloc ?_ _)) gq); have HLV := Lib.hid h7; clear h7 gq) | (go_at_call 30; with_reducible refine (KG2.out _ _ (HLV.out.mono (by repeat (with_reducible first | exact Grew.refl _ | refine Grew.drew ?_ | refine Grew.alloc ?_ _)))).mono ?_; rintro e wz ⟨⟨sx, rfl⟩, gq⟩; have GZ := Lib.hid (show Grew w7 wz from GQ1.out.trans (Grew.trans (by repeat (with_reducible first | exact Grew.refl _ | refine Grew.drew ?_ | refine Grew.alloc ?_ _)) gq)); clear gq))
                all_goals go_wp2_with fail
                all_goals go_meet
                all_goals exact ⟨⟨sx, rfl⟩, rfl, (show Aside _ from GZ.out)⟩
              case rest =>
                obtain ⟨⟨sx, rfl⟩, rfl, GC⟩ := hcut
                clear HWR KG2 b10 b11 b12 b13
                replace HG := Lib.hid (HG.out.trans GC.out)
                replace HTB := Lib.hid (fun W gg => HTB.out W (Grew.trans GC.out gg))
                replace Hn := Lib.hid (Hn.out.mono GC.out)
                replace HOW := Lib.hid (own_keep HOW.out GC.out)
                replace HGB := Lib.hid (HGB.out.trans GC.out)
                replace HVB := Lib.hid (fun W gg => HVB.out W (Grew.trans GC.out gg))
                replace HX1 := Lib.hid (fun W gg => HX1.out W (Grew.trans GC.out gg))
                clear t0 t1
                obtain ⟨t0, t1⟩ := HTB.out _ (Grew.refl _)
                clear v0 v1 v2 v3
                obtain ⟨v0, v1, v2, v3⟩ := HVB.out _ (Grew.refl _)
                replace HUB := Lib.hid (heap_keepI GC.out HUB.out)
                obtain ⟨⟨b10, b11, b12, b13⟩, z0, z1, z2, z3⟩ := four_cells HUB.out
                cases s with
                | true =>
                  clear HASK HFF hs z0 z1 z2 z3
                  go_wp2
                  go_roundg (ms.length - (k + 1))
                  case measure => omega
                  case rel => exact ⟨k + 1, W, by omega, by omega, by go_num, (show Aside _ from HWO.out), (show Aside _ from by show _ ≤ _; omega), (show Aside _ from HOW.out), (show Aside _ from HGB.out)⟩
                | false =>
                  have hno : getF W yu ye yl = none := by simpa using hs
                  obtain ⟨q1, q2, hwok, hperm⟩ := wide_new (v := ⟨yu, ye, yl, yt⟩) HT.out HRN.out HWO.out (by omega) HASK.out HFF.out HINH.out hno
                  dsimp only at q1 q2 hwok hperm
                  have HWK := Lib.hid hwok
                  have HPM := Lib.hid hperm
                  have HSO := Lib.hid hwok.right.2.2.2
                  have hnu : (Value.slice Aw W.length cw).ownBlock ≠ some U1 := fun e => by have h1 := HSZ.out _ e; have h2 := HUL.out; omega
                  have hub := HUL.out
                  have hwy := HWY.out
                  have HOW2 := Lib.hid (own_set (j := 0) HOW.out hnu (.int .i64 yu))
                  have HGB2 := Lib.hid (HGB.out.setCell (p := ⟨U1, 0, none⟩) (show wB.heap.size ≤ U1 by omega) (.int .i64 yu))
                  have HUS := Lib.hid (show (wc.setCell ⟨U1, 0, none⟩ (.int .i64 yu)).heap[U1]? = some (.cells #[.int .i64 yu, .int .i64 xe, .string xl, .string xt] 29 (0, 0)) from by have h := heap_setCell_same wc U1 0 _ _ (.int .i64 yu) HUB.out; simpa using h)
                  obtain ⟨⟨s10, s11, s12, s13⟩, -⟩ := four_cells HUS.out
                  clear hno hs hwok hperm hub hwy hnu q1 q2 HASK HFF HINH
                  go_wp2_with (at_builtin; refine appR rfl _ _ 27 rfl wB 29 i0 (.agg #[.int .i64 0, .int .i64 0, .string ⟨#[]⟩, .string ⟨#[]⟩]) 4 48 Tryz.underlying27 hi hz0 hz1 hz2 rfl (by omega) _ _ _ (by rfl) _ (own_keep HOW2.out ((Grew.refl _).alloc _)) (HGB2.out.alloc _) _ 1 [.int .i64 yu, .int .i64 xe, .string xl, .string xt] (by rfl) (rd_lit _ rfl _ (by simp)) rfl (by simp [Value.oneCell']) (by unfold maxLen; omega) (by omega) ?_; intro v8 w8 hown hg hkp)
                  have HOWN := Lib.hid (own_snocU ⟨yu, xe, xl, xt⟩ rfl hown)
                  have HG8 := Lib.hid hg
                  clear hown hg hkp s10 s11 s12 s13 b10 b11 b12 b13 z0 z1 z2 z3 t0 t1 v0 v1 v2 v3
                  have KSO := Lib.hid (sortV_own (W ++ [⟨yu, xe, xl, xt⟩]) (putV ⟨yu, xe, xl, xt⟩ W) (by simp) HPM.out HSO.out wB v8 w8 HOWN.out HG8.out (by simp; omega))
                  have HPL := Lib.hid (show (putV ⟨yu, xe, xl, xt⟩ W).length ≤ na.length + (k + 1) by rw [← HPM.out.length_eq]; simp; omega)
                  generalize putV ⟨yu, xe, xl, xt⟩ W = PW at KSO HPL HWK
                  clear HPM HSO HOWN HOW2 HGB2
                  go_wp2_with fail
                  refine KSO.out.mono ?_
                  rintro e w9 ⟨rfl, ho9, g9⟩
                  have HO9 := Lib.hid ho9
                  have HG9 := Lib.hid g9
                  clear ho9 g9 KSO
                  dsimp only
                  go_wp2
                  go_roundg (ms.length - (k + 1))
                  case measure => omega
                  case rel => exact ⟨k + 1, PW, by omega, by omega, by go_num, (show Aside _ from HWK.out), (show Aside _ from HPL.out), (show Aside _ from HO9.out), (show Aside _ from HG9.out)⟩
      · have hltz : ¬ (k : Int) < (ms.length : Int) := by omega
        obtain rfl : k = ms.length := by omega
        clear t0 t1
        replace HG := Lib.hid (HG0.out.trans GW.out)
        replace HTB := Lib.hid (fun W gg => HTB0.out W (GW.out.trans gg))
        replace Hn := Lib.hid (Hn0.out.mono GW.out)
        obtain ⟨t0, t1⟩ := HTB.out _ (Grew.refl _)
        have HWR := Lib.hid (show SlV wr _ W from Rd.of_own OW.out)
        have km := KM.out W HWO.out.right.2.1
        rw [HNR.out W HWO.out] at km
        dsimp only at km
        have KM2 := Lib.hid km
        clear km KM KF KG HNR HWO HWL OW HMR
        go_wp2_with fail
        go_cut [19, 20] from 122 to 129 (fun s1 s2 wx => LvsCut wr na 0 s1 s2 wx)
        case first =>
          go_region_held3 (fun W => W.cell? ⟨w.heap.size, 0, none⟩ = some (.slice Ar t.roots.length cr) ∧ W.cell? ⟨w.heap.size, 1, none⟩ = some (.slice Ab t.brs.length cb) ∧ Grew wr W) (refine heldI wr _ t0 t1 (by repeat (with_reducible first | exact Grew.refl _ | exact GZ.out | exact GQ1.out | refine Grew.drew ?_ | refine Grew.alloc ?_ _ | refine Grew.setCell ?_ (by first | exact Nat.le_refl _ | exact GZ.out.size | exact GQ1.out.size | simp) _))) (first | (go_at_call 14; with_reducible refine (KCS.out _ (HG.out.trans (by repeat (with_reducible first | exact Grew.refl _ | refine Grew.drew ?_ | refine Grew.alloc ?_ _))) HF.out).mono ?_; rintro e wq1 ⟨A1, c1, rfl, h5, gq⟩; have GX := Lib.hid (show Grew wr wq1 from Grew.trans (by repeat (with_reducible first | exact Grew.refl _ | refine Grew.drew ?_ | refine Grew.alloc ?_ _)) gq); have GQ1 := Lib.hid (show Grew wr wq1 from GX.out); have HLS1_1 := Lib.hid h5; clear h5 gq GX) | (go_at_call 13; with_reducible refine (KM2.out _ _ _ (HG.out.trans (GQ1.out.trans (by repeat (with_reducible first | exact Grew.refl _ | refine Grew.drew ?_ | refine Grew.alloc ?_ _)))) (HLS1_1.out.mono (by repeat (with_reducible first | exact Grew.refl _ | refine Grew.drew ?_ | refine Grew.alloc ?_ _))) (HWR.out.mono (GQ1.out.trans (by repeat (with_reducible first | exact Grew.refl _ | refine Grew.drew ?_ | refine Grew.alloc ?_ _)))) HF.out).mono ?_; rintro e wz ⟨vq, rfl, ho, gq⟩; have GZ := Lib.hid (show Grew wr wz from GQ1.out.trans (Grew.trans (by repeat (with_reducible first | exact Grew.refl _ | refine Grew.drew ?_ | refine Grew.alloc ?_ _)) gq)); obtain ⟨Aq, cq, rfl⟩ := own_slice ho; have HO := Lib.hid (Rd.of_own ho); clear ho gq))
          all_goals go_wp2_with fail
          all_goals go_meet
          all_goals exact lvsC HO.out GZ.out
        case rest =>
          obtain ⟨⟨Am, cm, rfl⟩, rfl, HLX, GC⟩ := hcut
          replace HG := Lib.hid (HG.out.trans GC.out)
          replace HTB := Lib.hid (fun W gg => HTB.out W (Grew.trans GC.out gg))
          replace Hn := Lib.hid (Hn.out.mono GC.out)
          clear t0 t1
          obtain ⟨t0, t1⟩ := HTB.out _ (Grew.refl _)
          have Hm := Lib.hid HLX.out
          clear HLX GC
          have KEQ := Lib.hid (equalV na na _ _ _ Hm.out Hn.out)
          rw [decide_eq_true (rfl : na = na)] at KEQ
          clear t0 t1
          go_wp2_with fail
          refine KEQ.out.mono ?_
          rintro e w9 ⟨rfl, g9⟩
          have HGE := Lib.hid (HG.out.trans g9)
          clear g9 KEQ
          dsimp only
          go_wp2
          go_ret
          exact ⟨rfl, HGE.out⟩
end Go.Proofs.YtjaknioojpgkiaaGreatDoor
