/- The law DescribeLines, walked, its awake given. The condition: the library's own variables hold what they must. -/
import Derived.Test.YtjaknioojpgkiaaGreatDoorQ51
namespace Go.Proofs.YtjaknioojpgkiaaGreatDoor
open Go.RowKit

attribute [local go_sem] Oper.semAt_some
attribute [local simp] wide_fn
theorem heldN (w1 W : World) {p0 p1 p2 : Addr} {y0 y1 y2 : Value} (a0 : w1.cell? p0 = some y0) (a1 : w1.cell? p1 = some y1) (a2 : w1.cell? p2 = some y2) (g : Grew w1 W) :
    W.cell? p0 = some y0 ∧ W.cell? p1 = some y1 ∧ W.cell? p2 = some y2 ∧ Grew w1 W := ⟨keep_cell g a0, keep_cell g a1, keep_cell g a2, g⟩
/-- Behind `a, f := All(..)`, the list in a box. -/
def BoxCut (W0 : World) (l : List Val) (n : Int) (s1 s2 : Value) (wx : World) : Prop := ∃ P A c, s1 = .pointer (some ⟨P, 0, none⟩) ∧ s2 = .int .i64 n ∧ Aside (wx.cell? ⟨P, 0, none⟩ = some (.slice A l.length c)) ∧ Aside (SlV wx (.slice A l.length c) l) ∧ Aside (W0.heap.size ≤ P) ∧ Aside (Grew W0 wx)
theorem box_meet {W0 W : World} {P base : Nat} {l : List Val} {n : Int} {A : Option Addr} {c : Nat} {x : Value} (hb : W.heap[P]? = some (.cells [x].toArray 27 (0, 0))) (hP : W0.heap.size ≤ P) (g : Grew W0 W) (ho : W.ownsRow base 29 4 (.slice A l.length c) l.length (l.flatMap Val.cells)) :
    BoxCut W0 l n (.pointer (some ⟨P, 0, none⟩)) (.int .i64 n) (W.setCell ⟨P, 0, none⟩ (.slice A l.length c)) :=
  ⟨P, A, c, rfl, rfl, (show Aside _ from ((show Boxed W P 27 x from hb).set _).cell), (show Aside _ from Rd.of_own (ownsRow_setCell_other ho (fun e => (show Boxed W P 27 x from hb).not_row (by decide) ho e.symm) _)), (show Aside _ from hP), (show Aside _ from g.setCell hP _)⟩
theorem box_meet2 {W0 W : World} {base : Nat} {l : List Val} {n : Int} {A : Option Addr} {c : Nat} (g : Grew W0 W) (ho : W.ownsRow base 29 4 (.slice A l.length c) l.length (l.flatMap Val.cells)) :
    BoxCut W0 l n (.pointer (some ⟨W.heap.size, 0, none⟩)) (.int .i64 n) (W.alloc (.cells #[.slice A l.length c] 27)) :=
  ⟨_, A, c, rfl, rfl, (show Aside _ from (Boxed.new W 27 _).cell), (show Aside _ from Rd.mono (Rd.of_own ho) ((Grew.refl W).alloc _)), (show Aside _ from g.size), (show Aside _ from g.alloc _)⟩
set_option maxHeartbeats 16000000 in
set_option maxRecDepth 100000 in
theorem dlines_of (t : Tr) (ls : List ByteArray) (vs : List Val) (un : Int) (wt : ByteArray) (rv bv lv vv : Value) (w : World) (hE : Env w) (hr : SlI w rv t.roots) (hb : SlBr w bv t.brs) (hl : SlS w lv ls) (hvv : SlV w vv vs) (hA : ∀ W, Grew w W → Calls Tryz.prog 10 #[] W fun e w' => e = .returned (.bool true) ∧ Grew W w') :
    Calls Tryz.prog 7 #[.agg #[rv, bv], lv, vv, .int .i64 un, .string wt] w fun e w' => e = .returned (.bool true) ∧ Grew w w' := by
  have KA := Lib.hid hA
  have KW := Lib.hid (fun ms mv W (hW : Grew w W) (hm : SlS W mv ms) => fewLawD t ls vs ms rv bv lv vv mv W (hr.mono hW) (hb.mono hW) (hl.mono hW) (hvv.mono hW) hm)
  have KCS := Lib.hid (fun W (hW : Grew w W) (hf : FewI t ls vs) => clS ls lv W (hl.mono hW) hf.2.1)
  have KCV := Lib.hid (fun W (hW : Grew w W) (hf : FewI t ls vs) => clV vs vv W (hvv.mono hW) hf.2.2)
  have HE := Lib.hid (fun W (hW : Grew w W) => hE.mono hW)
  have kP := fun lv' vv' W (hW : Grew w W) (hl' : SlS W lv' ls) (hv' : SlV W vv' vs) (hf : FewI t ls vs) => dPrint t ls vs un wt rv bv lv' vv' W (hE.mono hW) (hr.mono hW) (hb.mono hW) hf.1.br hf.1.rs hl' hv'
  have kA := fun lv' vv' W (hW : Grew w W) (hl' : SlS W lv' ls) (hv' : SlV W vv' vs) (hf : FewI t ls vs) => iAllX t ls vs un wt rv bv lv' vv' W (hE.mono hW) (hr.mono hW) (hb.mono hW) hf.1.br hf.1.rs hl' hv'
  unfold RetVL at kA
  have HHD := Lib.hid (all_hd (t := t) (ls := ls) (vs := vs) (u := un) (wt := wt))
  have HSM := Lib.hid (all_small (t := t) (ls := ls) (vs := vs) (u := un) (wt := wt))
  have HPR : Hid ((printR t ls vs un wt).2 = (allR t ls vs un wt).2 ∧ ((allR t ls vs un wt).2 = 0 → (printR t ls vs un wt).1 = ⟨(linesB (allR t ls vs un wt).1 un wt).toArray⟩) ∧ ((allR t ls vs un wt).2 ≠ 0 → (printR t ls vs un wt).1 = ⟨#[]⟩)) := Lib.hid (by
    unfold printR
    by_cases h : (allR t ls vs un wt).2 = 0
    · rw [if_pos h]; exact ⟨h.symm, fun _ => rfl, fun k => absurd h k⟩
    · rw [if_neg h]; exact ⟨rfl, fun k => absurd k h, fun _ => rfl⟩)
  generalize printR t ls vs un wt = R at kP HPR
  generalize allR t ls vs un wt = Q at kA HPR HHD HSM
  obtain ⟨pb, pe⟩ := R
  obtain ⟨al, ae⟩ := Q
  dsimp only at kP kA HPR HHD HSM
  obtain rfl : pe = ae := HPR.out.1
  have HPZ := Lib.hid HPR.out.2.1
  have HPN := Lib.hid HPR.out.2.2
  have KP := Lib.hid kP
  have KAL := Lib.hid kA
  clear kP kA HPR
  obtain ⟨Av, cv, rfl, -⟩ := hvv.open_
  obtain ⟨Ar, cr, rfl, -⟩ := hr.open_
  obtain ⟨Ab, cb, rfl, -⟩ := hb.open_
  clear hE hr hb hl hvv hA
  refine (callsIn_wide (n := 9)).1 ?_
  refine callsIn_of_wp_marks Tryz.func7 rfl trivial ?_ rfl
  simp only [Tryz.ntmps7, List.size_toArray, List.length_cons, List.length_nil, Nat.reduceAdd, Nat.reduceSub, Array.replicate_succ, Array.replicate_zero, List.push_toArray, List.append_toArray, List.nil_append, List.cons_append]
  refine wpIn_wide.2 ?_
  go_wp2_with fail
  refine (KA.out _ ((((Grew.refl w).alloc _).alloc _).alloc _)).mono ?_
  rintro e wa ⟨rfl, ga⟩
  have t0 := new_cell (w := w) ((((Grew.refl _).alloc _).alloc _).trans ga) 0 _ rfl
  have t1 := new_cell (w := w) ((((Grew.refl _).alloc _).alloc _).trans ga) 1 _ rfl
  have v0 := new_cell (((Grew.refl _).alloc _).trans ga) 0 _ rfl
  have r9 := heap_keepI ga (Boxed.new _ 4 (.bool false))
  rw [World.size_alloc] at v0
  rw [World.size_alloc, World.size_alloc] at r9
  have HTB := Lib.hid (show ∀ W, Grew wa W → W.cell? ⟨w.heap.size, 0, none⟩ = some (.slice Ar t.roots.length cr) ∧ W.cell? ⟨w.heap.size, 1, none⟩ = some (.slice Ab t.brs.length cb) from fun W g => ⟨keep_cell g t0, keep_cell g t1⟩)
  have HRB := Lib.hid (show w.heap.size ≤ w.heap.size + 1 + 1 by omega)
  generalize w.heap.size + 1 + 1 = RB at r9 HRB ⊢
  have HUB := Lib.hid (show ∀ W, Grew wa W → W.cell? ⟨w.heap.size + 1, 0, none⟩ = some (.int .i64 un) ∧ Boxed W RB 4 (.bool false) from fun W g => ⟨keep_cell g v0, heap_keepI g r9⟩)
  have r0 := (HUB.out _ (Grew.refl _)).2.cell
  have f0 := (HUB.out _ (Grew.refl _)).2.frozen
  clear r9
  have HG := Lib.hid (((((Grew.refl w).alloc _).alloc _).alloc _).trans ga)
  clear ga
  dsimp only
  go_wp2_with fail
  refine (KW.out _ _ _ (HG.out.alloc _) (lit1S _ _)).mono ?_
  rintro e wb ⟨q, rfl, hq, gb⟩
  have HQ := Lib.hid hq
  have GB := Lib.hid (Grew.trans ((Grew.refl wa).alloc _) gb)
  clear hq gb
  replace HG := Lib.hid (HG.out.trans GB.out)
  replace HTB := Lib.hid (fun W gg => HTB.out W (Grew.trans GB.out gg))
  replace HUB := Lib.hid (fun W gg => HUB.out W (Grew.trans GB.out gg))
  clear t0 t1 v0 r0 f0
  obtain ⟨t0, t1⟩ := HTB.out _ (Grew.refl _)
  have v0 := (HUB.out _ (Grew.refl _)).1
  have r0 := (HUB.out _ (Grew.refl _)).2.cell
  have f0 := (HUB.out _ (Grew.refl _)).2.frozen
  dsimp only
  cases q
  · clear HQ
    go_wp2_with fail
    refine (KA.out _ HG.out).mono ?_
    rintro e wz ⟨rfl, g3⟩
    have HG3 := Lib.hid (HG.out.trans g3)
    clear r0 f0
    have r0 := (HUB.out _ g3).2.cell
    have f0 := (HUB.out _ g3).2.frozen
    have p0 := ((HUB.out _ g3).2.set (.bool true)).cell
    clear g3
    dsimp only
    go_wp2
    refine ⟨.bool true, by simp [results, Tryz.results7, go_sem, p0], rfl, HG3.out.setCell HRB.out _⟩
  have HF := Lib.hid (HQ.out (by first | rfl | trivial))
  clear HQ
  go_wp2_with fail
  go_cut [11, 12] from 33 to 42 (fun s1 s2 wx => s1 = .string pb ∧ s2 = .int .i64 pe ∧ Aside (Grew wb wx))
  case first =>
    go_region_held3 (fun W => W.cell? ⟨w.heap.size, 0, none⟩ = some (.slice Ar t.roots.length cr) ∧ W.cell? ⟨w.heap.size, 1, none⟩ = some (.slice Ab t.brs.length cb) ∧ W.cell? ⟨w.heap.size + 1, 0, none⟩ = some (.int .i64 un) ∧ Grew wb W) (refine heldN wb _ t0 t1 v0 (by repeat (with_reducible first | exact Grew.refl _ | exact GZ.out | exact GQ2.out | exact GQ1.out | refine Grew.drew ?_ | refine Grew.alloc ?_ _ | refine Grew.setCell ?_ (by first | exact Nat.le_refl _ | exact GZ.out.size | exact GQ2.out.size | exact GQ1.out.size | simp) _))) (first | (go_at_call 14; with_reducible refine (KCS.out _ (HG.out.trans (by repeat (with_reducible first | exact Grew.refl _ | refine Grew.drew ?_ | refine Grew.alloc ?_ _))) HF.out).mono ?_; rintro e wq1 ⟨A1, c1, rfl, h5, gq⟩; have GX := Lib.hid (show Grew wb wq1 from Grew.trans (by repeat (with_reducible first | exact Grew.refl _ | refine Grew.drew ?_ | refine Grew.alloc ?_ _)) gq); have GQ1 := Lib.hid (show Grew wb wq1 from GX.out); have HLS1_1 := Lib.hid h5; clear h5 gq GX) | (go_at_call 15; with_reducible refine (KCV.out _ (HG.out.trans (GQ1.out.trans (by repeat (with_reducible first | exact Grew.refl _ | refine Grew.drew ?_ | refine Grew.alloc ?_ _)))) HF.out).mono ?_; rintro e wq2 ⟨A2, c2, rfl, h5, gq⟩; have GX := Lib.hid (show Grew wq1 wq2 from Grew.trans (by repeat (with_reducible first | exact Grew.refl _ | refine Grew.drew ?_ | refine Grew.alloc ?_ _)) gq); have GQ2 := Lib.hid (show Grew wb wq2 from GQ1.out.trans GX.out); have HLS1_2 := Lib.hid (HLS1_1.out.mono GX.out); have HLS2_2 := Lib.hid h5; clear h5 gq GX) | (go_at_call 24; with_reducible refine (KP.out _ _ _ (HG.out.trans (GQ2.out.trans (by repeat (with_reducible first | exact Grew.refl _ | refine Grew.drew ?_ | refine Grew.alloc ?_ _)))) (HLS1_2.out.mono (by repeat (with_reducible first | exact Grew.refl _ | refine Grew.drew ?_ | refine Grew.alloc ?_ _))) (HLS2_2.out.mono (by repeat (with_reducible first | exact Grew.refl _ | refine Grew.drew ?_ | refine Grew.alloc ?_ _))) HF.out).mono ?_; rintro e wz ⟨rfl, gq⟩; have GZ := Lib.hid (show Grew wb wz from GQ2.out.trans (Grew.trans (by repeat (with_reducible first | exact Grew.refl _ | refine Grew.drew ?_ | refine Grew.alloc ?_ _)) gq)); clear gq))
    all_goals go_wp2_with fail
    all_goals go_meet
    all_goals exact ⟨rfl, rfl, (show Aside _ from GZ.out)⟩
  case rest =>
    obtain ⟨rfl, rfl, GC⟩ := hcut
    replace HG := Lib.hid (HG.out.trans GC.out)
    replace HTB := Lib.hid (fun W gg => HTB.out W (Grew.trans GC.out gg))
    replace HUB := Lib.hid (fun W gg => HUB.out W (Grew.trans GC.out gg))
    clear t0 t1 v0 r0 f0
    obtain ⟨t0, t1⟩ := HTB.out _ (Grew.refl _)
    have v0 := (HUB.out _ (Grew.refl _)).1
    have r0 := (HUB.out _ (Grew.refl _)).2.cell
    have f0 := (HUB.out _ (Grew.refl _)).2.frozen
    clear GC
    go_wp2_with fail
    generalize hwB : wc = wB at *
    go_cut [13, 14] from 44 to 53 (fun s1 s2 wx => BoxCut wB al pe s1 s2 wx)
    case first =>
      go_region_held3 (fun W => W.cell? ⟨w.heap.size, 0, none⟩ = some (.slice Ar t.roots.length cr) ∧ W.cell? ⟨w.heap.size, 1, none⟩ = some (.slice Ab t.brs.length cb) ∧ W.cell? ⟨w.heap.size + 1, 0, none⟩ = some (.int .i64 un) ∧ Grew wB W) (refine heldN wB _ t0 t1 v0 (by repeat (with_reducible first | exact Grew.refl _ | exact GZ.out | exact GQ2.out | exact GQ1.out | refine Grew.drew ?_ | refine Grew.alloc ?_ _ | refine Grew.setCell ?_ (by first | exact Nat.le_refl _ | exact GZ.out.size | exact GQ2.out.size | exact GQ1.out.size | simp) _))) (first | (go_at_call 14; with_reducible refine (KCS.out _ (HG.out.trans (by repeat (with_reducible first | exact Grew.refl _ | refine Grew.drew ?_ | refine Grew.alloc ?_ _))) HF.out).mono ?_; rintro e wq1 ⟨A1, c1, rfl, h5, gq⟩; have GX := Lib.hid (show Grew wB wq1 from Grew.trans (by repeat (with_reducible first | exact Grew.refl _ | refine Grew.drew ?_ | refine Grew.alloc ?_ _)) gq); have GQ1 := Lib.hid (show Grew wB wq1 from GX.out); have HLS1_1 := Lib.hid h5; (try (have hdr : Grew (wB.alloc (.cells [.slice none 0 0].toArray 27)).drew wq1 := (by with_reducible exact gq); have BX1 := Lib.hid (heap_keepI (Grew.trans (Grew.refl _).drew hdr) (heap_newI wB (.cells [.slice none 0 0].toArray 27))))); (try (have hdr : Grew (wB.alloc (.cells [.slice none 0 0].toArray 27)) wq1 := (by with_reducible exact gq); have BX1 := Lib.hid (heap_keepI hdr (heap_newI wB (.cells [.slice none 0 0].toArray 27))))); clear h5 gq GX) | (go_at_call 15; with_reducible refine (KCV.out _ (HG.out.trans (GQ1.out.trans (by repeat (with_reducible first | exact Grew.refl _ | refine Grew.drew ?_ | refine Grew.alloc ?_ _)))) HF.out).mono ?_; rintro e wq2 ⟨A2, c2, rfl, h5, gq⟩; have GX := Lib.hid (show Grew wq1 wq2 from Grew.trans (by repeat (with_reducible first | exact Grew.refl _ | refine Grew.drew ?_ | refine Grew.alloc ?_ _)) gq); have GQ2 := Lib.hid (show Grew wB wq2 from GQ1.out.trans GX.out); have HLS1_2 := Lib.hid (HLS1_1.out.mono GX.out); have HLS2_2 := Lib.hid h5; (try (have BX2 := Lib.hid (heap_keepI GX.out BX1.out))); (try (have hdr : Grew (wq1.alloc (.cells [.slice none 0 0].toArray 27)).drew wq2 := (by with_reducible exact gq); have BX2 := Lib.hid (heap_keepI (Grew.trans (Grew.refl _).drew hdr) (heap_newI wq1 (.cells [.slice none 0 0].toArray 27))))); (try (have hdr : Grew (wq1.alloc (.cells [.slice none 0 0].toArray 27)) wq2 := (by with_reducible exact gq); have BX2 := Lib.hid (heap_keepI hdr (heap_newI wq1 (.cells [.slice none 0 0].toArray 27))))); clear h5 gq GX) | (go_at_call 32; with_reducible refine (KAL.out _ _ _ (HG.out.trans (GQ2.out.trans (by repeat (with_reducible first | exact Grew.refl _ | refine Grew.drew ?_ | refine Grew.alloc ?_ _)))) (HLS1_2.out.mono (by repeat (with_reducible first | exact Grew.refl _ | refine Grew.drew ?_ | refine Grew.alloc ?_ _))) (HLS2_2.out.mono (by repeat (with_reducible first | exact Grew.refl _ | refine Grew.drew ?_ | refine Grew.alloc ?_ _))) HF.out).mono ?_; rintro e wz ⟨vq, rfl, ho, gq⟩; have GX := Lib.hid (show Grew wq2 wz from Grew.trans (by repeat (with_reducible first | exact Grew.refl _ | refine Grew.drew ?_ | refine Grew.alloc ?_ _)) gq); have GZ := Lib.hid (show Grew wB wz from GQ2.out.trans GX.out); obtain ⟨Aq, cq, rfl⟩ := own_slice ho; have HO := Lib.hid ho; (try have BXZ := Lib.hid (heap_keepI GX.out BX2.out)); (try (have hdr : Grew (wq2.alloc (.cells [.slice none 0 0].toArray 27)).drew wz := (by with_reducible exact gq); have BXZ := Lib.hid (heap_keepI (Grew.trans (Grew.refl _).drew hdr) (heap_newI wq2 (.cells [.slice none 0 0].toArray 27))))); (try (have hdr : Grew (wq2.alloc (.cells [.slice none 0 0].toArray 27)) wz := (by with_reducible exact gq); have BXZ := Lib.hid (heap_keepI hdr (heap_newI wq2 (.cells [.slice none 0 0].toArray 27))))); (try (have qq := one_cell BXZ.out; obtain ⟨q0, z0⟩ := qq)); clear ho gq GX))
      all_goals go_wp2_with fail
      all_goals go_meet
      all_goals with_reducible first | exact box_meet2 GZ.out HO.out | exact box_meet BXZ.out (Nat.le_refl _) GZ.out HO.out | exact box_meet BXZ.out GQ1.out.size GZ.out HO.out | exact box_meet BXZ.out GQ2.out.size GZ.out HO.out
    case rest =>
      obtain ⟨PA, AA, ca, rfl, rfl, hpc, hal, hps, GC⟩ := hcut
      have HPA := Lib.hid hpc.out
      have HAL := Lib.hid hal.out
      have HPS := Lib.hid (Nat.le_trans HG.out.size hps.out)
      replace HG := Lib.hid (HG.out.trans GC.out)
      replace HTB := Lib.hid (fun W gg => HTB.out W (Grew.trans GC.out gg))
      replace HUB := Lib.hid (fun W gg => HUB.out W (Grew.trans GC.out gg))
      clear t0 t1 v0 r0 f0
      obtain ⟨t0, t1⟩ := HTB.out _ (Grew.refl _)
      have v0 := (HUB.out _ (Grew.refl _)).1
      have r0 := (HUB.out _ (Grew.refl _)).2.cell
      have f0 := (HUB.out _ (Grew.refl _)).2.frozen
      have HGC := Lib.hid GC.out
      clear GC hpc hal hps
      by_cases hpe : pe = 0
      rotate_left
      · obtain rfl : pb = ⟨#[]⟩ := HPN.out hpe
        have hb : (pe != 0) = true := by simpa using hpe
        have hempty : (⟨#[]⟩ : ByteArray).toList.isEmpty = true := by decide +kernel
        have p0 := ((HUB.out _ (Grew.refl _)).2.set (.bool true)).cell
        have HGE := Lib.hid (show Grew w (wc.setCell ⟨RB, 0, none⟩ (.bool true)) from HG.out.setCell HRB.out _)
        clear HPZ HPN HHD HSM hpe
        go_wp2
        try rw [hempty]
        refine ⟨.bool true, by simp [results, Tryz.results7, go_sem, p0], rfl, HGE.out⟩
      subst hpe
      obtain rfl := HPZ.out rfl
      have HHL := Lib.hid (HHD.out rfl)
      have HLS := Lib.hid (HSM.out rfl)
      clear HHD HSM HPZ HPN KA KP KAL HF KCS KCV
      go_wp2_with fail
      refine (sLines _ _).mono ?_
      rintro e wl ⟨rfl, hwl⟩
      have HI0 := Lib.hid (lns_start (pb := ⟨(linesB al un wt).toArray⟩) HG.out (HUB.out _ (Grew.refl _)).2)
      have hX := Boxed.new (wc.alloc (.cells #[.int .i64 0] 3)) 9 (.string ⟨(linesB al un wt).toArray⟩)
      have hsl : wl.heap.size = wc.heap.size + 2 := by rw [← hwl, World.size_alloc, World.size_alloc]
      rw [World.size_alloc] at hX
      rw [hwl] at hX HI0
      rw [World.size_alloc]
      have HHL2 := Lib.hid (fun k (h : k < al.length) => HHL.out al[k] (List.getElem_mem h))
      have HA8 := Lib.hid HLS.out.1
      have HLS2 := Lib.hid (fun k (h : k < al.length) => HLS.out.2 al[k] (List.getElem_mem h))
      have HLEN := Lib.hid (lines_len HLS.out : (linesB al un wt).length ≤ 200000)
      have HLE := Lib.hid (line_end HHL.out : cntL (linesL (linesB al un wt)) = al.length)
      have HAT := Lib.hid (fun pre x hp hb => line_at (L := al) (unit := un) (wt := wt) HHL.out (pre := pre) (x := x) hp hb)
      generalize linesB al un wt = LB at hX HI0 HLEN HLE HAT hwl ⊢
      have hst := linesStops LB (by have := HLEN.out; omega) (wc.heap.size + 1) 8 wl hX
      have v9 := v0
      have p9 := HPA.out
      have HRW := Lib.hid (SlV.open_ HAL.out)
      have HNR := Lib.hid (HUB.out _ (Grew.refl _)).2.lt
      dsimp only
      go_wp2_with fail
      clear t0 t1 v0 r0 f0 hwl hX HLS HHL
      refine (wpIn_wide (n := 9)).1 ?_
      refine wpIn_rangeX rfl (by omega) (gf := 94) (lb := #[.pointer (some ⟨wc.heap.size + 1, 0, none⟩)]) rfl trivial (enters_of Tryz.func94 (by kernel_rfl) rfl) (X := wc.heap.size + 1) (by omega) hst (fun _ => rfl)
        (fun pre W => LnS w wc wc.heap.size RB (cntL pre) W) (fun _ _ _ => False)
        (fun _ _ _ _ hs hg hr => hs.turn hg (fun r e => by rcases hr r e with h | h <;> omega) HNR.out HG.out.size) (fun _ _ _ _ _ hs _ _ => hs.elim) HI0.out ?a1 ?assign ?body ?done ?stop
      case assign =>
        intro l x W K hK
        gi_wp2
        exact hK
      case stop =>
        rintro D c pre W - - hf
        exact hf.elim
      case done =>
        rintro D xs W hD rfl hI hK
        have HI := Lib.hid hI
        have h1 := hI.n.cell
        rw [HLE.out] at h1
        have h2 := hI.keep _ _ _ p9 (by simp)
        have f2 := hI.r.frozen
        have h3 := hI.r.cell
        have HK := Lib.hid hK
        have p0 := (((hI.r.set (.bool true)).kept (grownBy_putObj' _ D (.deferred none)) (fun e => by cases e; have := HNR.out; omega))).cell
        have HGE := Lib.hid (Below.grown (show Grew w (W.setCell ⟨RB, 0, none⟩ (.bool true)) from hI.g.setCell HRB.out _) (grownBy_putObj' _ D (.deferred none)) (by have := hI.g.size; simpa using this) (fun k e => by cases e; have := HG.out.size; omega))
        clear hI hK hst
        go_wp2
        refine ⟨by simp, .inl ⟨_, _, rfl, run_takeDeferred ((KeepsOthers.setCell _ _ _).same _ _ HK.out rfl), ?_⟩⟩
        refine ⟨.bool true, by simp [results, Tryz.results7, go_sem, p0], rfl, HGE.out⟩
      case body =>
        rintro l pre x W hI hSp
        have KHP := Lib.hid (fun s p W => Tryz.strings_HasPrefix s p W)
        have KWD := Lib.hid (fun n W => word_any n W)
        have KCT := Lib.hid (fun s p m W h1 h2 => Tryz.strings_Cut s p m W h1 h2)
        have HI := Lib.hid hI
        have HSP := Lib.hid hSp
        have HCS := Lib.hid (cnt_snoc pre x)
        clear hI hSp hst
        gi_wp2_with fail
        refine (CallsIn.inRound l (callsIn_wide.2 (KHP.out _ _ W))).mono ?_
        rintro e W ⟨rfl, rfl⟩
        dsimp only
        rw [show Lib.hasPrefix (⟨x.toArray⟩ : ByteArray).data.toList (⟨#[32, 32]⟩ : ByteArray).data.toList = blank2 x from rfl]
        cases hb : blank2 x with
        | true =>
          have HB := Lib.hid hb
          clear hb
          gi_wp2
          refine ⟨keeps_grew (Grew.refl _), KpX.refl _ _, ?_⟩
          show LnS _ _ _ _ _ _
          rw [HCS.out, HB.out, if_pos rfl]
          exact HI.out
        | false =>
          obtain ⟨hn, rfl⟩ := HAT.out pre x HSP.out hb
          obtain ⟨A2, c2, hvd, hlc, hc, hr⟩ := HRW.out
          injection hvd with e1 e2 e3
          subst e1 e3
          obtain ⟨bb, off, rfl, hbb, hcell⟩ := hr (by omega)
          obtain ⟨y0, y1, y2, y3⟩ := hcell wc (Grew.refl _) (cntL pre) hn
          have HCT := Lib.hid (HCS.out.trans (by rw [hb]; rfl : _ = cntL pre + 1))
          have HOK := Lib.hid (HHL2.out _ hn)
          have HSZ := Lib.hid (HLS2.out _ hn)
          generalize cntL pre = k at hn HI HCT HOK HSZ y0 y1 y2 y3 hb ⊢
          have HLT := Lib.hid hn
          have HSP2 := Lib.hid (HSP.out)
          clear hb hlc hc hr hcell hbb HSP HCS HAT HRW
          generalize al[k] = v at HOK HSZ y0 y1 y2 y3 HSP2 ⊢
          obtain ⟨q1, q2, q3, q4⟩ := head_asks (unit := un) (wt := wt) HOK.out
          have HQ1 := Lib.hid q1
          have HQ2 := Lib.hid q2
          have HQ3 := Lib.hid q3
          have HQ4 := Lib.hid q4
          have HY := Lib.hid (show ∀ W9, LnS w wc wc.heap.size RB k W9 → W9.cell? ⟨wc.heap.size, 0, none⟩ = some (.int .i64 (k : Int)) ∧ W9.frozen? ⟨wc.heap.size, 0, none⟩ = false ∧ W9.cell? ⟨PA, 0, none⟩ = some (.slice (some ⟨bb, off, none⟩) al.length ca) ∧ W9.cell? ⟨w.heap.size + 1, 0, none⟩ = some (.int .i64 un) ∧ W9.cell? ⟨bb, off + k * 4, none⟩ = some (.int .i64 v.unit) ∧ W9.cell? ⟨bb, off + k * 4 + 1, none⟩ = some (.int .i64 v.elem) ∧ W9.cell? ⟨bb, off + k * 4 + 3, none⟩ = some (.string v.text) from fun W9 h => ⟨h.n.cell, h.n.frozen, h.keep _ _ _ p9 (by simp), h.keep _ _ _ v9 (by simp), h.keep _ _ _ y0 (by simp), h.keep _ _ _ y1 (by simp), h.keep _ _ _ y3 (by simp)⟩)
          clear y0 y1 y2 y3 p9 v9 q1 q2 q3 q4
          obtain ⟨n0, m0, p9, v9, y0, y1, y3⟩ := HY.out _ HI.out
          have hltz : (k : Int) < (al.length : Int) := by have := HLT.out; omega
          have hgez : ¬ (al.length : Int) ≤ (k : Int) := by omega
          have h0z : (0 : Int) ≤ (k : Int) := by omega
          obtain ⟨vu, ve, vl, vt⟩ := v
          dsimp only at y0 y1 y3 HQ1 HQ2 HQ3 HQ4 HSZ
          gi_wp2_with fail
          refine (CallsIn.inRound l (callsIn_wide.2 (KWD.out _ W))).mono ?_
          rintro e W2 ⟨rfl, g2⟩
          have HI2 := Lib.hid (HI.out.grew g2 HNR.out HG.out.size)
          have HK2 := Lib.hid (keeps_grew g2)
          have HX2 := Lib.hid (KpX.grew (X := wc.heap.size + 1) HI.out.lt g2)
          clear n0 m0 p9 v9 y0 y1 y3 g2
          obtain ⟨n0, m0, p9, v9, y0, y1, y3⟩ := HY.out _ HI2.out
          dsimp only at y0 y1 y3 ⊢
          gi_wp2_with fail
          refine (CallsIn.inRound l (callsIn_wide.2 (KHP.out _ _ W2))).mono ?_
          rintro e W2 ⟨rfl, rfl⟩
          dsimp only
          rw [show Lib.hasPrefix (⟨(headL ⟨vu, ve, vl, vt⟩ un wt).toArray⟩ : ByteArray).data.toList (kindOf ve).word.data.toList = true from HQ1.out]
          gi_wp2_with fail
          obtain ⟨⟨mx, hm⟩, -⟩ := HE.out W2 HI2.out.g
          refine (CallsIn.inRound l (callsIn_wide.2 (KCT.out vt ⟨#[10]⟩ mx W2 (by have := HSZ.out.2.1; omega) hm))).mono ?_
          rintro e W3 ⟨rfl, nn, hnn⟩
          have g3 : Grew W2 W3 := by rw [hnn]; exact (Grew.refl _).drewN _
          have HI3 := Lib.hid (HI2.out.grew g3 HNR.out HG.out.size)
          have HK3 := Lib.hid (HK2.out.trans (keeps_grew g3))
          have HX3 := Lib.hid (HX2.out.trans (KpX.grew (X := wc.heap.size + 1) HI2.out.lt g3))
          clear n0 m0 p9 v9 y0 y1 y3 g3 hnn hm
          obtain ⟨n0, m0, p9, v9, y0, y1, y3⟩ := HY.out _ HI3.out
          dsimp only at y0 y1 y3 ⊢
          rw [show (Lib.cut vt.data.toList (⟨#[10]⟩ : ByteArray).data.toList).1 = firstL vt.data.toList from cut_first _]
          generalize (Lib.cut vt.data.toList (⟨#[10]⟩ : ByteArray).data.toList).2.1 = z1
          generalize (Lib.cut vt.data.toList (⟨#[10]⟩ : ByteArray).data.toList).2.2 = z2
          gi_wp2_with fail
          have TL : tailL ⟨vu, ve, vl, vt⟩ = (⟨#[58, 32]⟩ ++ ⟨(firstL vt.data.toList).toArray⟩ ++ ⟨#[10]⟩ : ByteArray).data.toList := by rw [str_data, str_data]; rfl
          have hhl : (headL ⟨vu, ve, vl, vt⟩ un wt).length ≤ 20000 := head_len _ un wt HSZ.out.1 HSZ.out.2.1 HSZ.out.2.2.1 HSZ.out.2.2.2
          have hdl : (hdB ⟨vu, ve, vl, vt⟩ un wt).length ≤ 20000 := by unfold headL at hhl; rw [List.length_append] at hhl; omega
          have KHS := Lib.hid (fun W => (Tryz.strings_HasSuffix ⟨(headL ⟨vu, ve, vl, vt⟩ un wt).toArray⟩ (⟨#[58, 32]⟩ ++ ⟨(firstL vt.data.toList).toArray⟩ ++ ⟨#[10]⟩) W (by rw [ba_size]; omega)).mono (fun e w1 h => (show e = .returned (.bool true) ∧ w1 = W from ⟨by rw [h.1, ← TL]; exact congrArg (fun b => Ending.returned (.bool b)) HQ2.out, h.2⟩)))
          have KTS := Lib.hid (fun W => (Tryz.strings_TrimSuffix ⟨(headL ⟨vu, ve, vl, vt⟩ un wt).toArray⟩ (⟨#[58, 32]⟩ ++ ⟨(firstL vt.data.toList).toArray⟩ ++ ⟨#[10]⟩) W (by rw [ba_size]; omega)).mono (fun e w1 h => (show e = .returned (.string ⟨(hdB ⟨vu, ve, vl, vt⟩ un wt).toArray⟩) ∧ w1 = W from ⟨by rw [h.1, ← TL]; exact congrArg (fun b : List UInt8 => Ending.returned (.string ⟨b.toArray⟩)) HQ3.out, h.2⟩)))
          have KCO := Lib.hid (fun m W (hm : W.cell? ⟨0, 0, none⟩ = some (.int .i64 m)) => (Tryz.strings_Contains ⟨(hdB ⟨vu, ve, vl, vt⟩ un wt).toArray⟩ ⟨#[32, 102, 114, 111, 109, 32]⟩ m W (by rw [ba_size]; omega) hm).mono (fun e w1 h => (show e = .returned (.bool (!(decide (vu = un)))) ∧ w1 = W from ⟨by rw [h.1]; exact congrArg (fun b => Ending.returned (.bool b)) HQ4.out, h.2⟩)))
          obtain ⟨⟨mx, hm⟩, -⟩ := HE.out W3 HI3.out.g
          have hrl : (⟨(firstL vt.data.toList).toArray⟩ : ByteArray).size ≤ 4096 := by rw [ba_size]; exact Nat.le_trans (first_len _) HSZ.out.2.1
          clear TL hhl hdl HQ1 HQ2 HQ3 HQ4
          generalize (⟨(firstL vt.data.toList).toArray⟩ : ByteArray) = rt at KHS KTS hrl ⊢
          generalize (⟨(headL ⟨vu, ve, vl, vt⟩ un wt).toArray⟩ : ByteArray) = hs at KHS KTS ⊢
          generalize (⟨(hdB ⟨vu, ve, vl, vt⟩ un wt).toArray⟩ : ByteArray) = hd at KTS KCO
          have c4 := fun W => run_string_add_sum (P := Tryz.prog) W ((⟨#[58, 32]⟩ : ByteArray)) (rt) (by have := (show ((⟨#[58, 32]⟩ : ByteArray)).size = 2 from rfl); omega)
          have c5 := fun W => run_string_add_sum (P := Tryz.prog) W ((⟨#[58, 32]⟩ : ByteArray) ++ rt) ((⟨#[10]⟩ : ByteArray)) (by have := (show ((⟨#[58, 32]⟩ : ByteArray)).size = 2 from rfl); have := (show ((⟨#[10]⟩ : ByteArray)).size = 1 from rfl); rw [ByteArray.size_append]; omega)
          have hwk : IntKind.i64.wrap ((k : Int) + 1) = (k : Int) + 1 := IntWalk.i64_in _ (by have := HLT.out; have := HA8.out; omega)
          by_cases hu : vu = un
          · rw [decide_eq_true hu] at KCO
            have hne : (vu != un) = false := by simp [hu]
            clear hu
            refine region_round (by kernel_rfl) (by kernel_rfl) (by kernel_rfl) ?_
            repeat (gi_big_quiet_step (first | exact callsIn_wide.2 ((KHS.out _).mono (fun e w1 h => ⟨h.1, ⟨_, h.2⟩⟩)) | exact callsIn_wide.2 ((KTS.out _).mono (fun e w1 h => ⟨h.1, ⟨_, h.2⟩⟩)) | exact callsIn_wide.2 ((KCO.out mx _ (keep_cell ((Grew.refl _).drewN _) hm)).mono (fun e w1 h => ⟨h.1, ⟨_, h.2⟩⟩))))
            refine wpQuietIn_nil ?_
            intro _ hw
            obtain ⟨nq, hw2⟩ := hw
            subst hw2
            gi_wp2_with fail
            refine ⟨(HK3.out.trans (keeps_grew ((Grew.refl _).drewN _))).trans (KeepsOthers.setCell _ _ _), (HX3.out.trans (KpX.grew HI3.out.lt ((Grew.refl _).drewN _))).trans (Below.heap_setCell _ _ _ _ (by show wc.heap.size + 1 ≠ wc.heap.size; omega)), ?_⟩
            show LnS w wc wc.heap.size RB (cntL (pre ++ [_])) _
            rw [HCT.out]
            exact (HI3.out.grew ((Grew.refl _).drewN _) HNR.out HG.out.size).count (k + 1) HNR.out HG.out.size
          · rw [decide_eq_false hu] at KCO
            have hne : (vu != un) = true := by simp [hu]
            clear hu
            refine region_round (by kernel_rfl) (by kernel_rfl) (by kernel_rfl) ?_
            repeat (gi_big_quiet_step (first | exact callsIn_wide.2 ((KHS.out _).mono (fun e w1 h => ⟨h.1, ⟨_, h.2⟩⟩)) | exact callsIn_wide.2 ((KTS.out _).mono (fun e w1 h => ⟨h.1, ⟨_, h.2⟩⟩)) | exact callsIn_wide.2 ((KCO.out mx _ (keep_cell ((Grew.refl _).drewN _) hm)).mono (fun e w1 h => ⟨h.1, ⟨_, h.2⟩⟩))))
            refine wpQuietIn_nil ?_
            intro _ hw
            obtain ⟨nq, hw2⟩ := hw
            subst hw2
            gi_wp2_with fail
            refine ⟨(HK3.out.trans (keeps_grew ((Grew.refl _).drewN _))).trans (KeepsOthers.setCell _ _ _), (HX3.out.trans (KpX.grew HI3.out.lt ((Grew.refl _).drewN _))).trans (Below.heap_setCell _ _ _ _ (by show wc.heap.size + 1 ≠ wc.heap.size; omega)), ?_⟩
            show LnS w wc wc.heap.size RB (cntL (pre ++ [_])) _
            rw [HCT.out]
            exact (HI3.out.grew ((Grew.refl _).drewN _) HNR.out HG.out.size).count (k + 1) HNR.out HG.out.size
end Go.Proofs.YtjaknioojpgkiaaGreatDoor
