/- The law DescribeSets, walked, its awake given. The condition: the library's own variables hold what they must. -/
import Derived.Test.YtjaknioojpgkiaaGreatDoorQ36
import Derived.Test.YtjaknioojpgkiaaGreatDoorQ19
import Derived.Test.YtjaknioojpgkiaaGreatDoorQ16
namespace Go.Proofs.YtjaknioojpgkiaaGreatDoor
open Go.RowKit

theorem sets1 (l : List Int) (x : Int) (U : Nat) (A : Option Addr) (c : Nat) (W : World) (h0 : W.cell? ⟨U, 0, none⟩ = some (.slice A l.length c)) (h : SlI W (.slice A l.length c) l) :
    Calls Tryz.prog 42 (#[.int .i64 x] ++ #[.pointer (some ⟨U, 0, none⟩)]) W fun e w' => e = .returned (.bool (!(l.any fun y => x == y))) ∧ Grew W w' := by
  have K := Lib.hid (containsI l x _ W h)
  clear h
  go_enter Tryz.func42, Tryz.ntmps42
  go_wp2_with fail
  refine K.out.mono ?_
  rintro e w1 ⟨rfl, rfl⟩
  dsimp only
  go_wp2
  go_ret
  exact ⟨rfl, Grew.refl _⟩
theorem enters_sets1 : ∀ args w, (callFunc 42 args).run Tryz.prog w = .ok (.enter 42 args) w := enters_of Tryz.func42 (by kernel_rfl) rfl
set_option maxHeartbeats 16000000 in
set_option maxRecDepth 100000 in
theorem dsets_of (t : Tr) (ls : List ByteArray) (vs : List Val) (vu ve : Int) (vl vt : ByteArray) (wt : ByteArray) (rv bv lv vv : Value) (w : World) (hE : Env w) (hr : SlI w rv t.roots) (hb : SlBr w bv t.brs) (hl : SlS w lv ls) (hvv : SlV w vv vs) (hA : ∀ W, Grew w W → Calls Tryz.prog 10 #[] W fun e w' => e = .returned (.bool true) ∧ Grew W w') :
    Calls Tryz.prog 8 #[.agg #[rv, bv], lv, vv, .agg #[.int .i64 vu, .int .i64 ve, .string vl, .string vt], .string wt] w fun e w' => e = .returned (.bool true) ∧ Grew w w' := by
  have KA := Lib.hid hA
  have KW := Lib.hid (fun ms mv W (hW : Grew w W) (hm : SlS W mv ms) => fewLawD t ls vs ms rv bv lv vv mv W (hr.mono hW) (hb.mono hW) (hl.mono hW) (hvv.mono hW) hm)
  have KCS := Lib.hid (fun W (hW : Grew w W) (hf : FewI t ls vs) => clS ls lv W (hl.mono hW) hf.2.1)
  have KCV := Lib.hid (fun W (hW : Grew w W) (hf : FewI t ls vs) => clV vs vv W (hvv.mono hW) hf.2.2)
  have KW2 := Lib.hid (fun vv' W (hW : Grew w W) (hv' : SlV W vv' [⟨vu, ve, vl, vt⟩]) => few27q ls [⟨vu, ve, vl, vt⟩] lv vv' W (hl.mono hW) hv')
  have kN := fun lv' vv' W (hW : Grew w W) (hl' : SlS W lv' ls) (hv' : SlV W vv' vs) (hf : FewI t ls vs) => dSet t ls vs ⟨vu, ve, vl, vt⟩ rv bv lv' vv' W (hE.mono hW) (hr.mono hW) (hb.mono hW) hf.1.br hf.1.rs hl' hv' (by have := hf.2.2; omega)
  have kF := fun n (hn : n.length ≤ 1024) => fun lv' vv' W (hW : Grew w W) (hl' : SlS W lv' ls) (hv' : SlV W vv' n) (hf : FewI t ls vs) => iFoundX t ls n vu ve vl rv bv lv' vv' W (hE.mono hW) (hr.mono hW) (hb.mono hW) hf.1.br hf.1.rs hl' hv'
  have kR := fun n (hn : n.length ≤ 1024) => fun lv' vv' W (hW : Grew w W) (hl' : SlS W lv' ls) (hv' : SlV W vv' n) (hf : FewI t ls vs) => iRedX t ls n rv bv lv' vv' W (hE.mono hW) (hr.mono hW) (hb.mono hW) hf.1.br hf.1.rs hl' hv' (by omega)
  have kD := fun n (hn : n.length ≤ 1024) lv' vv' nv' W (hW : Grew w W) (hl' : SlS W lv' ls) (hv' : SlV W vv' vs) (hn' : SlV W nv' n) (hf : FewI t ls vs) => dDiffer t t ls vs n wt rv bv rv bv lv' vv' nv' W (hE.mono hW) (hr.mono hW) (hb.mono hW) hf.1.br hf.1.rs (hr.mono hW) (hb.mono hW) hf.1.br hf.1.rs hl' hv' (by have := hf.2.2; omega) hn' (by omega)
  have kB := fun (hbf : ∃ b, brFind t.brs vu = some b) W (hW : Grew w W) (hf : FewI t ls vs) => tBelow t.roots t.brs vu rv bv W (hE.mono hW) (hr.mono hW) (hb.mono hW) hf.1.br hf.1.rs (fun hT => by have h1 := below_len (right_sound hT) vu (.inr hbf); have h2 := (right_sound hT).len; exact Nat.le_trans h1 (by omega))
  have HBF := Lib.hid (fun h => (valE_good (set_is (t := t) (ls := ls) (vs := vs) (v := ⟨vu, ve, vl, vt⟩) h).1 (set_is h).2.2.2.1).2)
  have HTWO := Lib.hid (set_two t ls vs ⟨vu, ve, vl, vt⟩)
  have HPL := Lib.hid (fun h => sets_plain (t := t) (ls := ls) (vs := vs) (v := ⟨vu, ve, vl, vt⟩) h wt)
  unfold RetVL at kN
  unfold RetVE at kF
  unfold RetNL at kR kD
  unfold RetMine at kB
  unfold Val.agg at kN
  generalize setR t ls vs ⟨vu, ve, vl, vt⟩ = R at kN HTWO HPL HBF
  obtain ⟨na, ne⟩ := R
  dsimp only at kN HTWO HPL HBF
  have KN := Lib.hid kN
  have KF := Lib.hid kF
  have KR := Lib.hid kR
  have KD := Lib.hid kD
  have KB := Lib.hid kB
  clear kN kF kR kD kB
  obtain ⟨Av, cv, rfl, -⟩ := hvv.open_
  obtain ⟨Ar, cr, rfl, -⟩ := hr.open_
  obtain ⟨Ab, cb, rfl, -⟩ := hb.open_
  clear hE hr hb hl hvv hA
  have HVN := Lib.hid (fun (W : World) => heap_newI (w.alloc (.cells #[.slice Ar t.roots.length cr, .slice Ab t.brs.length cb] 25)) (.cells #[.int .i64 vu, .int .i64 ve, .string vl, .string vt] 29))
  go_enter Tryz.func8, Tryz.ntmps8
  go_wp2_with fail
  refine (KA.out _ (((Grew.refl w).alloc _).alloc _)).mono ?_
  rintro e wa ⟨rfl, ga⟩
  have t0 := new_cell (w := w) (((Grew.refl _).alloc _).trans ga) 0 _ rfl
  have t1 := new_cell (w := w) (((Grew.refl _).alloc _).trans ga) 1 _ rfl
  have hvh := heap_keepI ga (HVN.out w)
  rw [World.size_alloc] at hvh
  obtain ⟨⟨v0, v1, v2, v3⟩, -⟩ := four_cells hvh
  have HTB := Lib.hid (show ∀ W, Grew wa W → W.cell? ⟨w.heap.size, 0, none⟩ = some (.slice Ar t.roots.length cr) ∧ W.cell? ⟨w.heap.size, 1, none⟩ = some (.slice Ab t.brs.length cb) from fun W g => ⟨keep_cell g t0, keep_cell g t1⟩)
  have HVB := Lib.hid (show ∀ W, Grew wa W → W.cell? ⟨w.heap.size + 1, 0, none⟩ = some (.int .i64 vu) ∧ W.cell? ⟨w.heap.size + 1, 1, none⟩ = some (.int .i64 ve) ∧ W.cell? ⟨w.heap.size + 1, 2, none⟩ = some (.string vl) ∧ W.cell? ⟨w.heap.size + 1, 3, none⟩ = some (.string vt) from fun W g => ⟨keep_cell g v0, keep_cell g v1, keep_cell g v2, keep_cell g v3⟩)
  have HG := Lib.hid ((((Grew.refl w).alloc _).alloc _).trans ga)
  clear ga hvh HVN
  dsimp only
  go_wp2_with fail
  refine (KW.out _ _ _ (HG.out.alloc _) (lit2S _ _ _)).mono ?_
  rintro e wb ⟨q, rfl, hq, gb⟩
  have HQ := Lib.hid hq
  have GB := Lib.hid (Grew.trans ((Grew.refl wa).alloc _) gb)
  clear hq gb
  replace HG := Lib.hid (HG.out.trans GB.out)
  replace HTB := Lib.hid (fun W gg => HTB.out W (Grew.trans GB.out gg))
  replace HVB := Lib.hid (fun W gg => HVB.out W (Grew.trans GB.out gg))
  clear t0 t1
  obtain ⟨t0, t1⟩ := HTB.out _ (Grew.refl _)
  clear v0 v1 v2 v3
  obtain ⟨v0, v1, v2, v3⟩ := HVB.out _ (Grew.refl _)
  dsimp only
  cases q
  · clear HQ
    go_wp2_with fail
    refine (KA.out _ HG.out).mono ?_
    rintro e wz ⟨rfl, g3⟩
    have HG3 := Lib.hid (HG.out.trans g3)
    clear g3
    dsimp only
    go_wp2
    go_ret
    exact ⟨rfl, HG3.out⟩
  have HF := Lib.hid (HQ.out (by first | rfl | trivial))
  clear HQ
  go_wp2_with fail
  refine (KW2.out _ _ (HG.out.alloc _) (lit1V vu ve vl vt _)).mono ?_
  rintro e wd ⟨q, rfl, gd⟩
  have GD := Lib.hid (Grew.trans ((Grew.refl wb).alloc _) gd)
  clear gd
  replace HG := Lib.hid (HG.out.trans GD.out)
  replace HTB := Lib.hid (fun W gg => HTB.out W (Grew.trans GD.out gg))
  replace HVB := Lib.hid (fun W gg => HVB.out W (Grew.trans GD.out gg))
  clear t0 t1
  obtain ⟨t0, t1⟩ := HTB.out _ (Grew.refl _)
  clear v0 v1 v2 v3
  obtain ⟨v0, v1, v2, v3⟩ := HVB.out _ (Grew.refl _)
  dsimp only
  cases q
  · clear KW
    go_wp2_with fail
    refine (KA.out _ HG.out).mono ?_
    rintro e wz ⟨rfl, g3⟩
    have HG3 := Lib.hid (HG.out.trans g3)
    clear g3
    dsimp only
    go_wp2
    go_ret
    exact ⟨rfl, HG3.out⟩
  go_wp2_with fail
  go_cut [11, 12] from 44 to 52 (fun s1 s2 wx => LvsCut wd na ne s1 s2 wx)
  case first =>
    go_region_held3 (fun W => W.cell? ⟨w.heap.size, 0, none⟩ = some (.slice Ar t.roots.length cr) ∧ W.cell? ⟨w.heap.size, 1, none⟩ = some (.slice Ab t.brs.length cb) ∧ W.cell? ⟨w.heap.size + 1, 0, none⟩ = some (.int .i64 vu) ∧ W.cell? ⟨w.heap.size + 1, 1, none⟩ = some (.int .i64 ve) ∧ W.cell? ⟨w.heap.size + 1, 2, none⟩ = some (.string vl) ∧ W.cell? ⟨w.heap.size + 1, 3, none⟩ = some (.string vt) ∧ Grew wd W) (refine held6 wd _ t0 t1 v0 v1 v2 v3 (by repeat (with_reducible first | exact Grew.refl _ | exact GZ.out | exact GQ2.out | exact GQ1.out | refine Grew.drew ?_ | refine Grew.alloc ?_ _ | refine Grew.setCell ?_ (by first | exact Nat.le_refl _ | exact GZ.out.size | exact GQ2.out.size | exact GQ1.out.size | simp) _))) (first | (go_at_call 14; with_reducible refine (KCS.out _ (HG.out.trans (by repeat (with_reducible first | exact Grew.refl _ | refine Grew.drew ?_ | refine Grew.alloc ?_ _))) HF.out).mono ?_; rintro e wq1 ⟨A1, c1, rfl, h5, gq⟩; have GX := Lib.hid (show Grew wd wq1 from Grew.trans (by repeat (with_reducible first | exact Grew.refl _ | refine Grew.drew ?_ | refine Grew.alloc ?_ _)) gq); have GQ1 := Lib.hid (show Grew wd wq1 from GX.out); have HLS1_1 := Lib.hid h5; clear h5 gq GX) | (go_at_call 15; with_reducible refine (KCV.out _ (HG.out.trans (GQ1.out.trans (by repeat (with_reducible first | exact Grew.refl _ | refine Grew.drew ?_ | refine Grew.alloc ?_ _)))) HF.out).mono ?_; rintro e wq2 ⟨A2, c2, rfl, h5, gq⟩; have GX := Lib.hid (show Grew wq1 wq2 from Grew.trans (by repeat (with_reducible first | exact Grew.refl _ | refine Grew.drew ?_ | refine Grew.alloc ?_ _)) gq); have GQ2 := Lib.hid (show Grew wd wq2 from GQ1.out.trans GX.out); have HLS1_2 := Lib.hid (HLS1_1.out.mono GX.out); have HLS2_2 := Lib.hid h5; clear h5 gq GX) | (go_at_call 17; with_reducible refine (KN.out _ _ _ (HG.out.trans (GQ2.out.trans (by repeat (with_reducible first | exact Grew.refl _ | refine Grew.drew ?_ | refine Grew.alloc ?_ _)))) (HLS1_2.out.mono (by repeat (with_reducible first | exact Grew.refl _ | refine Grew.drew ?_ | refine Grew.alloc ?_ _))) (HLS2_2.out.mono (by repeat (with_reducible first | exact Grew.refl _ | refine Grew.drew ?_ | refine Grew.alloc ?_ _))) HF.out).mono ?_; rintro e wz ⟨vq, rfl, ho, gq⟩; have GZ := Lib.hid (show Grew wd wz from GQ2.out.trans (Grew.trans (by repeat (with_reducible first | exact Grew.refl _ | refine Grew.drew ?_ | refine Grew.alloc ?_ _)) gq)); obtain ⟨Aq, cq, rfl⟩ := own_slice ho; have HO := Lib.hid (Rd.of_own ho); clear ho gq))
    all_goals go_wp2_with fail
    all_goals go_meet
    all_goals exact lvsC HO.out GZ.out
  case rest =>
    obtain ⟨⟨An, cn, rfl⟩, rfl, HLX, GC⟩ := hcut
    replace HG := Lib.hid (HG.out.trans GC.out)
    replace HTB := Lib.hid (fun W gg => HTB.out W (Grew.trans GC.out gg))
    replace HVB := Lib.hid (fun W gg => HVB.out W (Grew.trans GC.out gg))
    clear t0 t1
    obtain ⟨t0, t1⟩ := HTB.out _ (Grew.refl _)
    clear v0 v1 v2 v3
    obtain ⟨v0, v1, v2, v3⟩ := HVB.out _ (Grew.refl _)
    have Hn := Lib.hid HLX.out
    clear HLX GC
    rcases HTWO.out with ⟨hne, hno⟩ | ⟨h0, hlen⟩
    · subst hno
      have hb : (ne != 0) = true := by simpa using hne
      clear HTWO HPL HBF KN KF KR KD KB hne
      clear t0 t1 v0 v1 v2 v3
      go_wp2
      go_ret
      exact ⟨rfl, HG.out⟩
    obtain ⟨-, hfo, hre, hbe, hde, hin⟩ := HPL.out h0
    have hbf := HBF.out h0
    clear HBF
    subst h0
    have kf := KF.out na hlen
    have kr := KR.out na hlen
    have kd := KD.out na hlen
    have kb := KB.out hbf
    rw [hfo] at kf
    rw [hre] at kr
    have hbe2 : (belowR ⟨t.roots, t.brs⟩ vu).2 = 0 := hbe
    have hin2 : ∀ x ∈ (difR t t ls vs na wt).1, x ∈ (belowR ⟨t.roots, t.brs⟩ vu).1 := hin
    generalize belowR ⟨t.roots, t.brs⟩ vu = B at kb hbe2 hin2
    obtain ⟨bl, be⟩ := B
    generalize difR t t ls vs na wt = D at kd hde hin2
    obtain ⟨da, de⟩ := D
    dsimp only [Option.getD_some, Option.isSome_some] at kf kr kd kb hbe2 hde hin2
    subst hbe2
    unfold Val.agg at kf
    dsimp only at kf
    obtain ⟨ra, hra⟩ : ∃ ra : List Int, ra = [] := ⟨_, rfl⟩
    rw [← hra] at kr
    have hany : (da.any fun x => !(bl.any fun y => x == y)) = false := by
      rw [List.any_eq_false]
      intro x hx
      have := (any_mem bl x).2 (hin2 x hx)
      rw [this]
      decide
    have KF2 := Lib.hid kf
    have KR2 := Lib.hid kr
    have KD2 := Lib.hid kd
    have KB2 := Lib.hid kb
    have HLN := Lib.hid (show na.length ≤ 1025 by omega)
    have HDE := Lib.hid hde
    have HRA := Lib.hid hra
    have HANY := Lib.hid hany
    clear kf kr kd kb hfo hre hde hra hlen hin hin2 hbe hany HTWO HPL KN KF KR KD KB
    go_wp2_with fail
    go_cut [13, 14, 15] from 59 to 73 (fun s1 s2 s3 wx => ValCut3 wc vu ve vl vt true 0 s1 s2 s3 wx)
    case first =>
      go_region_held3 (fun W => W.cell? ⟨w.heap.size, 0, none⟩ = some (.slice Ar t.roots.length cr) ∧ W.cell? ⟨w.heap.size, 1, none⟩ = some (.slice Ab t.brs.length cb) ∧ W.cell? ⟨w.heap.size + 1, 0, none⟩ = some (.int .i64 vu) ∧ W.cell? ⟨w.heap.size + 1, 1, none⟩ = some (.int .i64 ve) ∧ W.cell? ⟨w.heap.size + 1, 2, none⟩ = some (.string vl) ∧ W.cell? ⟨w.heap.size + 1, 3, none⟩ = some (.string vt) ∧ Grew wc W) (refine held6 wc _ t0 t1 v0 v1 v2 v3 (by repeat (with_reducible first | exact Grew.refl _ | exact GZ.out | exact GQ2.out | exact GQ1.out | refine Grew.drew ?_ | refine Grew.alloc ?_ _ | refine Grew.setCell ?_ (by first | exact Nat.le_refl _ | exact GZ.out.size | exact GQ2.out.size | exact GQ1.out.size | simp) _))) (first | (go_at_call 14; with_reducible refine (KCS.out _ (HG.out.trans (by repeat (with_reducible first | exact Grew.refl _ | refine Grew.drew ?_ | refine Grew.alloc ?_ _))) HF.out).mono ?_; rintro e wq1 ⟨A1, c1, rfl, h5, gq⟩; have GX := Lib.hid (show Grew wc wq1 from Grew.trans (by repeat (with_reducible first | exact Grew.refl _ | refine Grew.drew ?_ | refine Grew.alloc ?_ _)) gq); have GQ1 := Lib.hid (show Grew wc wq1 from GX.out); have HLS1_1 := Lib.hid h5; (try (have hdr : Grew (wc.alloc (.cells [.int .i64 0, .int .i64 0, .string ⟨#[]⟩, .string ⟨#[]⟩].toArray 29)).drew wq1 := (by with_reducible exact gq); have BX1 := Lib.hid (heap_keepI (Grew.trans (Grew.refl _).drew hdr) (heap_newI wc (.cells [.int .i64 0, .int .i64 0, .string ⟨#[]⟩, .string ⟨#[]⟩].toArray 29))))); (try (have hdr : Grew (wc.alloc (.cells [.int .i64 0, .int .i64 0, .string ⟨#[]⟩, .string ⟨#[]⟩].toArray 29)) wq1 := (by with_reducible exact gq); have BX1 := Lib.hid (heap_keepI hdr (heap_newI wc (.cells [.int .i64 0, .int .i64 0, .string ⟨#[]⟩, .string ⟨#[]⟩].toArray 29))))); clear h5 gq GX) | (go_at_call 15; with_reducible refine (clV _ _ _ (Hn.out.mono (GQ1.out.trans (by repeat (with_reducible first | exact Grew.refl _ | refine Grew.drew ?_ | refine Grew.alloc ?_ _)))) HLN.out).mono ?_; rintro e wq2 ⟨A2, c2, rfl, h5, gq⟩; have GX := Lib.hid (show Grew wq1 wq2 from Grew.trans (by repeat (with_reducible first | exact Grew.refl _ | refine Grew.drew ?_ | refine Grew.alloc ?_ _)) gq); have GQ2 := Lib.hid (show Grew wc wq2 from GQ1.out.trans GX.out); have HLS1_2 := Lib.hid (HLS1_1.out.mono GX.out); have HLS2_2 := Lib.hid h5; (try (have BX2 := Lib.hid (heap_keepI GX.out BX1.out))); (try (have hdr : Grew (wq1.alloc (.cells [.int .i64 0, .int .i64 0, .string ⟨#[]⟩, .string ⟨#[]⟩].toArray 29)).drew wq2 := (by with_reducible exact gq); have BX2 := Lib.hid (heap_keepI (Grew.trans (Grew.refl _).drew hdr) (heap_newI wq1 (.cells [.int .i64 0, .int .i64 0, .string ⟨#[]⟩, .string ⟨#[]⟩].toArray 29))))); (try (have hdr : Grew (wq1.alloc (.cells [.int .i64 0, .int .i64 0, .string ⟨#[]⟩, .string ⟨#[]⟩].toArray 29)) wq2 := (by with_reducible exact gq); have BX2 := Lib.hid (heap_keepI hdr (heap_newI wq1 (.cells [.int .i64 0, .int .i64 0, .string ⟨#[]⟩, .string ⟨#[]⟩].toArray 29))))); clear h5 gq GX) | (go_at_call 31; with_reducible refine (KF2.out _ _ _ (HG.out.trans (GQ2.out.trans (by repeat (with_reducible first | exact Grew.refl _ | refine Grew.drew ?_ | refine Grew.alloc ?_ _)))) (HLS1_2.out.mono (by repeat (with_reducible first | exact Grew.refl _ | refine Grew.drew ?_ | refine Grew.alloc ?_ _))) (HLS2_2.out.mono (by repeat (with_reducible first | exact Grew.refl _ | refine Grew.drew ?_ | refine Grew.alloc ?_ _))) HF.out).mono ?_; rintro e wz ⟨rfl, gq⟩; have GX := Lib.hid (show Grew wq2 wz from Grew.trans (by repeat (with_reducible first | exact Grew.refl _ | refine Grew.drew ?_ | refine Grew.alloc ?_ _)) gq); have GZ := Lib.hid (show Grew wc wz from GQ2.out.trans GX.out); (try (have BXZ := Lib.hid (heap_keepI GX.out BX2.out))); (try (have hdr : Grew (wq2.alloc (.cells [.int .i64 0, .int .i64 0, .string ⟨#[]⟩, .string ⟨#[]⟩].toArray 29)).drew wz := (by with_reducible exact gq); have BXZ := Lib.hid (heap_keepI (Grew.trans (Grew.refl _).drew hdr) (heap_newI wq2 (.cells [.int .i64 0, .int .i64 0, .string ⟨#[]⟩, .string ⟨#[]⟩].toArray 29))))); (try (have hdr : Grew (wq2.alloc (.cells [.int .i64 0, .int .i64 0, .string ⟨#[]⟩, .string ⟨#[]⟩].toArray 29)) wz := (by with_reducible exact gq); have BXZ := Lib.hid (heap_keepI hdr (heap_newI wq2 (.cells [.int .i64 0, .int .i64 0, .string ⟨#[]⟩, .string ⟨#[]⟩].toArray 29))))); (try (have qq := four_cells BXZ.out; obtain ⟨⟨q0, q1, q2, q3⟩, z0, z1, z2, z3⟩ := qq)); clear gq GX))
      all_goals go_wp2_with fail
      all_goals go_meet
      all_goals with_reducible first | exact val3 (val_meet2 GZ.out) | exact val3 (val_meet q0 q1 q2 q3 (Nat.le_refl _) GZ.out) | exact val3 (val_meet q0 q1 q2 q3 GQ1.out.size GZ.out) | exact val3 (val_meet q0 q1 q2 q3 GQ2.out.size GZ.out)
    case rest =>
      obtain ⟨⟨U1, rfl, rfl, u0, u1, u2, u3, GC⟩, rfl⟩ := hcut
      have GR1 := Lib.hid GC.out
      replace HG := Lib.hid (HG.out.trans GC.out)
      replace HTB := Lib.hid (fun W gg => HTB.out W (Grew.trans GC.out gg))
      replace HVB := Lib.hid (fun W gg => HVB.out W (Grew.trans GC.out gg))
      replace Hn := Lib.hid (Hn.out.mono GC.out)
      clear t0 t1
      obtain ⟨t0, t1⟩ := HTB.out _ (Grew.refl _)
      clear v0 v1 v2 v3
      obtain ⟨v0, v1, v2, v3⟩ := HVB.out _ (Grew.refl _)
      have u0 := u0.out
      have u1 := u1.out
      have u2 := u2.out
      have u3 := u3.out
      have HX1 := Lib.hid (show ∀ W, Grew wc W → W.cell? ⟨U1, 0, none⟩ = some (.int .i64 vu) ∧ W.cell? ⟨U1, 1, none⟩ = some (.int .i64 ve) ∧ W.cell? ⟨U1, 2, none⟩ = some (.string vl) ∧ W.cell? ⟨U1, 3, none⟩ = some (.string vt) from fun W g => ⟨keep_cell g u0, keep_cell g u1, keep_cell g u2, keep_cell g u3⟩)
      clear u0 u1 u2 u3 GC
      go_wp2_with fail
      go_cut [16, 17] from 75 to 82 (fun s1 s2 wx => LisCut wc ra 0 s1 s2 wx)
      case first =>
        go_region_held3 (fun W => W.cell? ⟨w.heap.size, 0, none⟩ = some (.slice Ar t.roots.length cr) ∧ W.cell? ⟨w.heap.size, 1, none⟩ = some (.slice Ab t.brs.length cb) ∧ W.cell? ⟨w.heap.size + 1, 0, none⟩ = some (.int .i64 vu) ∧ W.cell? ⟨w.heap.size + 1, 1, none⟩ = some (.int .i64 ve) ∧ W.cell? ⟨w.heap.size + 1, 2, none⟩ = some (.string vl) ∧ W.cell? ⟨w.heap.size + 1, 3, none⟩ = some (.string vt) ∧ Grew wc W) (refine held6 wc _ t0 t1 v0 v1 v2 v3 (by repeat (with_reducible first | exact Grew.refl _ | exact GZ.out | exact GQ2.out | exact GQ1.out | refine Grew.drew ?_ | refine Grew.alloc ?_ _ | refine Grew.setCell ?_ (by first | exact Nat.le_refl _ | exact GZ.out.size | exact GQ2.out.size | exact GQ1.out.size | simp) _))) (first | (go_at_call 14; with_reducible refine (KCS.out _ (HG.out.trans (by repeat (with_reducible first | exact Grew.refl _ | refine Grew.drew ?_ | refine Grew.alloc ?_ _))) HF.out).mono ?_; rintro e wq1 ⟨A1, c1, rfl, h5, gq⟩; have GX := Lib.hid (show Grew wc wq1 from Grew.trans (by repeat (with_reducible first | exact Grew.refl _ | refine Grew.drew ?_ | refine Grew.alloc ?_ _)) gq); have GQ1 := Lib.hid (show Grew wc wq1 from GX.out); have HLS1_1 := Lib.hid h5; clear h5 gq GX) | (go_at_call 15; with_reducible refine (clV _ _ _ (Hn.out.mono (GQ1.out.trans (by repeat (with_reducible first | exact Grew.refl _ | refine Grew.drew ?_ | refine Grew.alloc ?_ _)))) HLN.out).mono ?_; rintro e wq2 ⟨A2, c2, rfl, h5, gq⟩; have GX := Lib.hid (show Grew wq1 wq2 from Grew.trans (by repeat (with_reducible first | exact Grew.refl _ | refine Grew.drew ?_ | refine Grew.alloc ?_ _)) gq); have GQ2 := Lib.hid (show Grew wc wq2 from GQ1.out.trans GX.out); have HLS1_2 := Lib.hid (HLS1_1.out.mono GX.out); have HLS2_2 := Lib.hid h5; clear h5 gq GX) | (go_at_call 27; with_reducible refine (KR2.out _ _ _ (HG.out.trans (GQ2.out.trans (by repeat (with_reducible first | exact Grew.refl _ | refine Grew.drew ?_ | refine Grew.alloc ?_ _)))) (HLS1_2.out.mono (by repeat (with_reducible first | exact Grew.refl _ | refine Grew.drew ?_ | refine Grew.alloc ?_ _))) (HLS2_2.out.mono (by repeat (with_reducible first | exact Grew.refl _ | refine Grew.drew ?_ | refine Grew.alloc ?_ _))) HF.out).mono ?_; rintro e wz ⟨vq, rfl, ho, gq⟩; have GZ := Lib.hid (show Grew wc wz from GQ2.out.trans (Grew.trans (by repeat (with_reducible first | exact Grew.refl _ | refine Grew.drew ?_ | refine Grew.alloc ?_ _)) gq)); obtain ⟨Aq, cq, rfl⟩ := own_slice ho; have HO := Lib.hid (Rd.of_own ho); clear ho gq))
        all_goals go_wp2_with fail
        all_goals go_meet
        all_goals exact lisC HO.out GZ.out
      case rest =>
        obtain ⟨⟨Ag, cg, rfl⟩, rfl, HLX, GC⟩ := hcut
        replace HG := Lib.hid (HG.out.trans GC.out)
        replace HTB := Lib.hid (fun W gg => HTB.out W (Grew.trans GC.out gg))
        replace HVB := Lib.hid (fun W gg => HVB.out W (Grew.trans GC.out gg))
        replace Hn := Lib.hid (Hn.out.mono GC.out)
        replace HX1 := Lib.hid (fun W gg => HX1.out W (Grew.trans GC.out gg))
        clear t0 t1
        obtain ⟨t0, t1⟩ := HTB.out _ (Grew.refl _)
        clear v0 v1 v2 v3
        obtain ⟨v0, v1, v2, v3⟩ := HVB.out _ (Grew.refl _)
        have Hg := Lib.hid HLX.out
        clear HLX GC
        obtain ⟨b10, b11, b12, b13⟩ := HX1.out _ (Grew.refl _)
        have hl0 : ((ra.length : Int) != 0) = false := by rw [HRA.out]; rfl
        go_wp2_with fail
        refine (KB2.out _ HG.out HF.out).mono ?_
        rintro e wk ⟨vk, rfl, ho, gq⟩
        obtain ⟨Ak, ck, rfl⟩ := own_slice ho
        have Hk := Lib.hid (Rd.of_own ho)
        have GK := Lib.hid (gq.alloc (.cells #[.slice Ak bl.length ck] 22))
        have hbx := one_cell (heap_newI wk (.cells #[.slice Ak bl.length ck] 22))
        have HBX := Lib.hid (show ∀ W, Grew (wk.alloc (.cells #[.slice Ak bl.length ck] 22)) W → W.cell? ⟨wk.heap.size, 0, none⟩ = some (.slice Ak bl.length ck) from fun W g => keep_cell g hbx.1)
        replace Hk := Lib.hid (Hk.out.mono ((Grew.refl wk).alloc (.cells #[.slice Ak bl.length ck] 22)))
        clear ho gq hbx b10 b11 b12 b13
        replace HG := Lib.hid (HG.out.trans GK.out)
        replace HTB := Lib.hid (fun W gg => HTB.out W (Grew.trans GK.out gg))
        replace HVB := Lib.hid (fun W gg => HVB.out W (Grew.trans GK.out gg))
        replace Hn := Lib.hid (Hn.out.mono GK.out)
        replace HX1 := Lib.hid (fun W gg => HX1.out W (Grew.trans GK.out gg))
        replace Hg := Lib.hid (Hg.out.mono GK.out)
        clear t0 t1
        obtain ⟨t0, t1⟩ := HTB.out _ (Grew.refl _)
        clear v0 v1 v2 v3
        obtain ⟨v0, v1, v2, v3⟩ := HVB.out _ (Grew.refl _)
        dsimp only
        go_wp2_with fail
        skip
        generalize hwy : wk.alloc (.cells #[.slice Ak bl.length ck] 22) = wy at HG HTB HVB t0 t1 v0 v1 v2 v3 Hk HBX Hn HX1 Hg ⊢
        generalize wk.heap.size = U at HBX ⊢
        clear hwy
        go_cut [20, 21] from 111 to 122 (fun s1 s2 wx => LisCut wy da de s1 s2 wx)
        case first =>
          go_region_held3 (fun W => W.cell? ⟨w.heap.size, 0, none⟩ = some (.slice Ar t.roots.length cr) ∧ W.cell? ⟨w.heap.size, 1, none⟩ = some (.slice Ab t.brs.length cb) ∧ W.cell? ⟨w.heap.size + 1, 0, none⟩ = some (.int .i64 vu) ∧ W.cell? ⟨w.heap.size + 1, 1, none⟩ = some (.int .i64 ve) ∧ W.cell? ⟨w.heap.size + 1, 2, none⟩ = some (.string vl) ∧ W.cell? ⟨w.heap.size + 1, 3, none⟩ = some (.string vt) ∧ Grew wy W) (refine held6 wy _ t0 t1 v0 v1 v2 v3 (by repeat (with_reducible first | exact Grew.refl _ | exact GZ.out | exact GQ3.out | exact GQ2.out | exact GQ1.out | refine Grew.drew ?_ | refine Grew.alloc ?_ _ | refine Grew.setCell ?_ (by first | exact Nat.le_refl _ | exact GZ.out.size | exact GQ3.out.size | exact GQ2.out.size | exact GQ1.out.size | simp) _))) (first | (go_at_call 14; with_reducible refine (KCS.out _ (HG.out.trans (by repeat (with_reducible first | exact Grew.refl _ | refine Grew.drew ?_ | refine Grew.alloc ?_ _))) HF.out).mono ?_; rintro e wq1 ⟨A1, c1, rfl, h5, gq⟩; have GX := Lib.hid (show Grew wy wq1 from Grew.trans (by repeat (with_reducible first | exact Grew.refl _ | refine Grew.drew ?_ | refine Grew.alloc ?_ _)) gq); have GQ1 := Lib.hid (show Grew wy wq1 from GX.out); have HLS1_1 := Lib.hid h5; clear h5 gq GX) | (go_at_call 15; with_reducible refine (KCV.out _ (HG.out.trans (GQ1.out.trans (by repeat (with_reducible first | exact Grew.refl _ | refine Grew.drew ?_ | refine Grew.alloc ?_ _)))) HF.out).mono ?_; rintro e wq2 ⟨A2, c2, rfl, h5, gq⟩; have GX := Lib.hid (show Grew wq1 wq2 from Grew.trans (by repeat (with_reducible first | exact Grew.refl _ | refine Grew.drew ?_ | refine Grew.alloc ?_ _)) gq); have GQ2 := Lib.hid (show Grew wy wq2 from GQ1.out.trans GX.out); have HLS1_2 := Lib.hid (HLS1_1.out.mono GX.out); have HLS2_2 := Lib.hid h5; clear h5 gq GX) | (go_at_call 15; with_reducible refine (clV _ _ _ (Hn.out.mono (GQ2.out.trans (by repeat (with_reducible first | exact Grew.refl _ | refine Grew.drew ?_ | refine Grew.alloc ?_ _)))) HLN.out).mono ?_; rintro e wq3 ⟨A3, c3, rfl, h5, gq⟩; have GX := Lib.hid (show Grew wq2 wq3 from Grew.trans (by repeat (with_reducible first | exact Grew.refl _ | refine Grew.drew ?_ | refine Grew.alloc ?_ _)) gq); have GQ3 := Lib.hid (show Grew wy wq3 from GQ2.out.trans GX.out); have HLS1_3 := Lib.hid (HLS1_2.out.mono GX.out); have HLS2_3 := Lib.hid (HLS2_2.out.mono GX.out); have HLS3_3 := Lib.hid h5; clear h5 gq GX) | (go_at_call 22; with_reducible refine (KD2.out _ _ _ _ (HG.out.trans (GQ3.out.trans (by repeat (with_reducible first | exact Grew.refl _ | refine Grew.drew ?_ | refine Grew.alloc ?_ _)))) (HLS1_3.out.mono (by repeat (with_reducible first | exact Grew.refl _ | refine Grew.drew ?_ | refine Grew.alloc ?_ _))) (HLS2_3.out.mono (by repeat (with_reducible first | exact Grew.refl _ | refine Grew.drew ?_ | refine Grew.alloc ?_ _))) (HLS3_3.out.mono (by repeat (with_reducible first | exact Grew.refl _ | refine Grew.drew ?_ | refine Grew.alloc ?_ _))) HF.out).mono ?_; rintro e wz ⟨vq, rfl, ho, gq⟩; have GZ := Lib.hid (show Grew wy wz from GQ3.out.trans (Grew.trans (by repeat (with_reducible first | exact Grew.refl _ | refine Grew.drew ?_ | refine Grew.alloc ?_ _)) gq)); obtain ⟨Aq, cq, rfl⟩ := own_slice ho; have HO := Lib.hid (Rd.of_own ho); clear ho gq))
          all_goals go_wp2_with fail
          all_goals go_meet
          all_goals exact lisC HO.out GZ.out
        case rest =>
          obtain ⟨⟨Ad, cd, rfl⟩, rfl, HLX, GC⟩ := hcut
          replace HG := Lib.hid (HG.out.trans GC.out)
          replace HTB := Lib.hid (fun W gg => HTB.out W (Grew.trans GC.out gg))
          replace HVB := Lib.hid (fun W gg => HVB.out W (Grew.trans GC.out gg))
          replace Hn := Lib.hid (Hn.out.mono GC.out)
          replace HX1 := Lib.hid (fun W gg => HX1.out W (Grew.trans GC.out gg))
          replace Hg := Lib.hid (Hg.out.mono GC.out)
          replace Hk := Lib.hid (Hk.out.mono GC.out)
          replace HBX := Lib.hid (fun W gg => HBX.out W (Grew.trans GC.out gg))
          clear t0 t1
          obtain ⟨t0, t1⟩ := HTB.out _ (Grew.refl _)
          clear v0 v1 v2 v3
          obtain ⟨v0, v1, v2, v3⟩ := HVB.out _ (Grew.refl _)
          have Hd := Lib.hid HLX.out
          clear HLX GC
          clear t0 t1 v0 v1 v2 v3
          rcases HDE.out with rfl | rfl
          · have KCF := Lib.hid (containsFuncI da (fun x => !(bl.any fun y => x == y)) _ #[.pointer (some ⟨U, 0, none⟩)] enters_sets1 _ _ Hd.out (fun W x hW _ => sets1 bl x U Ak ck W (HBX.out W hW) (Hk.out.mono hW)))
            rw [HANY.out] at KCF
            go_wp2_with fail
            refine KCF.out.mono ?_
            rintro e w9 ⟨rfl, g9⟩
            have HGE := Lib.hid (HG.out.trans g9)
            clear g9 KCF
            dsimp only
            go_wp2
            go_ret
            exact ⟨rfl, HGE.out⟩
          · go_wp2
            go_ret
            exact ⟨rfl, HG.out⟩
end Go.Proofs.YtjaknioojpgkiaaGreatDoor
