/- The law InheritWithout, walked, its awake given. The condition: the library's own variables hold what they must. -/
import Derived.Test.YtmbpeniaefpljaaGreatDoorQ37
import Derived.Test.YtmbpeniaefpljaaGreatDoorQ42
namespace Go.Proofs.YtmbpeniaefpljaaGreatDoor
open Go.RowKit

theorem red_two (t : Tr) (ls : List ByteArray) (vs : List Val) : (redR t ls vs).1 = [] ∨ ((redR t ls vs).2 = 0 ∧ ofI t ls vs = 0 ∧ (redR t ls vs).1 = redF t vs) := by
  unfold redR
  by_cases h : ofI t ls vs = 0
  · rw [if_pos h]
    exact .inr ⟨rfl, h, rfl⟩
  · rw [if_neg h]
    exact .inl rfl
set_option maxHeartbeats 16000000 in
set_option maxRecDepth 100000 in
theorem without_of (t : Tr) (ls : List ByteArray) (vs : List Val) (m : Nat) (u n : Int) (lang : ByteArray) (rv bv lv vv : Value) (w : World) (hE : Env w) (hr : SlI w rv t.roots) (hb : SlBr w bv t.brs) (hl : SlS w lv ls) (hvv : SlV w vv vs) (hk : m < 256) (hA : ∀ W, Grew w W → Calls Tryz.prog 10 #[] W fun e w' => e = .returned (.bool true) ∧ Grew W w') :
    Calls Tryz.prog 8 #[.agg #[rv, bv], lv, vv, .int .u8 m, .int .i64 u, .int .i64 n, .string lang] w fun e w' => e = .returned (.bool true) ∧ Grew w w' := by
  have KA := Lib.hid hA
  have KW := Lib.hid (fun ms mv W (hW : Grew w W) (hm : SlS W mv ms) => fewLawI t ls vs ms rv bv lv vv mv W (hr.mono hW) (hb.mono hW) (hl.mono hW) (hvv.mono hW) hm)
  have KCS := Lib.hid (fun W (hW : Grew w W) (hf : FewI t ls vs) => clS ls lv W (hl.mono hW) hf.2.1)
  have KCV := Lib.hid (fun W (hW : Grew w W) (hf : FewI t ls vs) => clV vs vv W (hvv.mono hW) hf.2.2)
  have kR := fun lv' vv' W (hW : Grew w W) (hl' : SlS W lv' ls) (hv' : SlV W vv' vs) (hf : FewI t ls vs) => iRedX t ls vs rv bv lv' vv' W (hE.mono hW) (hr.mono hW) (hb.mono hW) hf.1.br hf.1.rs hl' hv' (by have := hf.2.2; omega)
  have kP := fun lv' vv' W (hW : Grew w W) (hl' : SlS W lv' ls) (hv' : SlV W vv' vs) (hf : FewI t ls vs) => iFoundX t ls vs u n lang rv bv lv' vv' W (hE.mono hW) (hr.mono hW) (hb.mono hW) hf.1.br hf.1.rs hl' hv'
  have kP2 := fun i => fun lv' vv' W (hW : Grew w W) (hl' : SlS W lv' ls) (hv' : SlV W vv' (vs.eraseIdx i)) (hf : FewI t ls vs) => iFoundX t ls (vs.eraseIdx i) u n lang rv bv lv' vv' W (hE.mono hW) (hr.mono hW) (hb.mono hW) hf.1.br hf.1.rs hl' hv'
  have kQ := fun lv' vv' W (hW : Grew w W) (hl' : SlS W lv' ls) (hv' : SlV W vv' vs) (hf : FewI t ls vs) => iEffX t ls vs u n lang rv bv lv' vv' W (hE.mono hW) (hr.mono hW) (hb.mono hW) hf.1.br hf.1.rs hl' hv'
  have kQ2 := fun i => fun lv' vv' W (hW : Grew w W) (hl' : SlS W lv' ls) (hv' : SlV W vv' (vs.eraseIdx i)) (hf : FewI t ls vs) => iEffX t ls (vs.eraseIdx i) u n lang rv bv lv' vv' W (hE.mono hW) (hr.mono hW) (hb.mono hW) hf.1.br hf.1.rs hl' hv'
  have HTWO := Lib.hid (red_two t ls vs)
  have KDV := Lib.hid (fun W (hW : Grew w W) (hf : FewI t ls vs) => cloneV vs vv W (hvv.mono hW) (by have := hf.2.2; omega))
  unfold RetNL at kR
  generalize redR t ls vs = R at kR HTWO
  obtain ⟨ra, re⟩ := R
  dsimp only at kR HTWO
  have KR := Lib.hid kR
  have KP1 := Lib.hid kP
  have KP2 := Lib.hid kP2
  have KQ1 := Lib.hid kQ
  have KQ2 := Lib.hid kQ2
  clear kR kP kP2 kQ kQ2
  obtain ⟨Av, cv, rfl, -⟩ := hvv.open_
  obtain ⟨Ar, cr, rfl, -⟩ := hr.open_
  obtain ⟨Ab, cb, rfl, -⟩ := hb.open_
  clear hE hr hb hl hvv hA
  go_enter Tryz.func8, Tryz.ntmps8
  go_wp2_with fail
  refine (KA.out _ ((Grew.refl w).alloc _)).mono ?_
  rintro e wa ⟨rfl, ga⟩
  have t0 := new_cell ga 0 _ rfl
  have t1 := new_cell ga 1 _ rfl
  have HTB := Lib.hid (show ∀ W, Grew wa W → W.cell? ⟨w.heap.size, 0, none⟩ = some (.slice Ar t.roots.length cr) ∧ W.cell? ⟨w.heap.size, 1, none⟩ = some (.slice Ab t.brs.length cb) from fun W g => ⟨keep_cell g t0, keep_cell g t1⟩)
  have HG := Lib.hid (((Grew.refl w).alloc _).trans ga)
  clear ga
  dsimp only
  go_wp2_with fail
  refine (KW.out _ _ _ (HG.out.alloc _) (lit1S _ _)).mono ?_
  rintro e wb ⟨q, rfl, hq, gb⟩
  have HQ := Lib.hid hq
  have GB := Lib.hid (Grew.trans ((Grew.refl wa).alloc _) gb)
  clear hq gb
  replace HG := Lib.hid (HG.out.trans GB.out)
  replace HTB := Lib.hid (fun W gg => HTB.out W (Grew.trans GB.out gg))
  clear t0 t1
  obtain ⟨t0, t1⟩ := HTB.out _ (Grew.refl _)
  dsimp only
  cases q
  · clear HQ
    go_wp2_with fail
    refine (KA.out _ HG.out).mono ?_
    rintro e wz ⟨rfl, g3⟩
    have HG3 := Lib.hid (HG.out.trans g3)
    clear g3
    dsimp only
    go_wp2
    go_ret
    exact ⟨rfl, HG3.out⟩
  have HF := Lib.hid (HQ.out (by first | rfl | trivial))
  clear HQ
  go_wp2_with fail
  go_cut [15, 16] from 43 to 51 (fun s1 s2 wx => LisCut wb ra re s1 s2 wx)
  case first =>
    go_region_held3 (fun W => W.cell? ⟨w.heap.size, 0, none⟩ = some (.slice Ar t.roots.length cr) ∧ W.cell? ⟨w.heap.size, 1, none⟩ = some (.slice Ab t.brs.length cb) ∧ Grew wb W) (refine heldI wb _ t0 t1 (by repeat (with_reducible first | exact Grew.refl _ | exact GQ3.out | exact GQ2.out | exact GQ1.out | refine Grew.drew ?_ | refine Grew.alloc ?_ _ | refine Grew.setCell ?_ (by first | exact Nat.le_refl _ | exact GQ3.out.size | exact GQ2.out.size | exact GQ1.out.size | simp) _))) (first | (go_at_call 13; refine (KCS.out _ (HG.out.trans (by repeat (with_reducible first | exact Grew.refl _ | refine Grew.drew ?_ | refine Grew.alloc ?_ _))) HF.out).mono ?_; rintro e w5 ⟨A5, c5, rfl, h5, gq⟩; have GQ1 := Lib.hid (show Grew wb w5 from Grew.trans (by repeat (with_reducible first | exact Grew.refl _ | refine Grew.drew ?_ | refine Grew.alloc ?_ _)) gq); have HLS := Lib.hid h5; clear h5 gq) | (go_at_call 14; refine (KCV.out _ (HG.out.trans (GQ1.out.trans (by repeat (with_reducible first | exact Grew.refl _ | refine Grew.drew ?_ | refine Grew.alloc ?_ _)))) HF.out).mono ?_; rintro e w6 ⟨A6, c6, rfl, h6, gq⟩; have GX := Lib.hid (show Grew w5 w6 from Grew.trans (by repeat (with_reducible first | exact Grew.refl _ | refine Grew.drew ?_ | refine Grew.alloc ?_ _)) gq); have GQ2 := Lib.hid (GQ1.out.trans GX.out); have HLS2 := Lib.hid (HLS.out.mono GX.out); have HLV := Lib.hid h6; clear h6 gq GX) | (go_at_call 24; refine (KR.out _ _ _ (HG.out.trans (GQ2.out.trans (by repeat (with_reducible first | exact Grew.refl _ | refine Grew.drew ?_ | refine Grew.alloc ?_ _)))) (HLS2.out.mono (by repeat (with_reducible first | exact Grew.refl _ | refine Grew.drew ?_ | refine Grew.alloc ?_ _))) (HLV.out.mono (by repeat (with_reducible first | exact Grew.refl _ | refine Grew.drew ?_ | refine Grew.alloc ?_ _))) HF.out).mono ?_; rintro e w7 ⟨vq, rfl, ho, gq⟩; have GX := Lib.hid (show Grew w6 w7 from Grew.trans (by repeat (with_reducible first | exact Grew.refl _ | refine Grew.drew ?_ | refine Grew.alloc ?_ _)) gq); have GQ3 := Lib.hid (GQ2.out.trans GX.out); obtain ⟨Aq, cq, rfl⟩ := own_slice ho; have HO := Lib.hid (Rd.of_own ho); clear ho gq GX))
    all_goals go_wp2_with fail
    all_goals go_meet
    all_goals exact lisC HO.out GQ3.out
  case rest =>
    obtain ⟨⟨Ad, cd, rfl⟩, rfl, HLX, GC⟩ := hcut
    replace HG := Lib.hid (HG.out.trans GC.out)
    replace HTB := Lib.hid (fun W gg => HTB.out W (Grew.trans GC.out gg))
    clear t0 t1
    obtain ⟨t0, t1⟩ := HTB.out _ (Grew.refl _)
    have Hd := Lib.hid HLX.out
    clear HLX GC
    rcases HTWO.out with hno | ⟨h0, hof, hra⟩
    · subst hno
      clear HTWO KR KP1 KP2 KQ1 KQ2 t0 t1
      by_cases hz : re = 0
      · subst hz
        go_wp2
        go_ret
        exact ⟨rfl, HG.out⟩
      · have hb : (re != 0) = true := by simpa using hz
        go_wp2
        go_ret
        exact ⟨rfl, HG.out⟩
    subst h0
    by_cases hl0 : ra.length = 0
    · have hl0z : ((ra.length : Int) == 0) = true := by rw [hl0]; rfl
      clear HTWO KR KP1 KP2 KQ1 KQ2 t0 t1 hra
      go_wp2
      go_ret
      exact ⟨rfl, HG.out⟩
    have hl0z : ((ra.length : Int) == 0) = false := beq_eq_false_iff_ne.2 (by omega)
    have hpos : 0 < ra.length := by omega
    have hkl : m % ra.length < ra.length := Nat.mod_lt _ hpos
    have hxm := List.getElem_mem hkl
    have hmem : ∀ x ∈ ra, x ∈ redF t vs := fun x hx => by rw [← hra]; exact hx
    obtain ⟨i, hi, hxi, hrb⟩ := red_get (hmem _ hxm)
    obtain ⟨f1, f2, f3⟩ := wo_found hof hi hrb u n lang
    obtain ⟨g1, g2, g3, g4⟩ := wo_eff hof hi hrb u n lang
    have kp := KP1.out
    have kp2 := KP2.out i
    have kq := KQ1.out
    have kq2 := KQ2.out i
    unfold RetVE at kp kp2 kq kq2
    generalize foundR t ls vs u n lang = R1 at kp f1 f2 f3
    generalize foundR t ls (vs.eraseIdx i) u n lang = R2 at kp2 f1 f2 f3
    generalize effR t ls vs u n lang = R3 at kq g1 g2 g3 g4
    generalize effR t ls (vs.eraseIdx i) u n lang = R4 at kq2 g1 g2 g3 g4
    obtain ⟨o1, e1⟩ := R1
    obtain ⟨o2, e2⟩ := R2
    obtain ⟨o3, e3⟩ := R3
    obtain ⟨o4, e4⟩ := R4
    dsimp only at kp kp2 kq kq2 f1 f2 f3 g1 g2 g3 g4
    replace f1 := f1.symm
    replace g1 := g1.symm
    subst f1 g1
    rw [f2] at kp2
    rw [g2] at kq2
    generalize o1.isSome = sa at kp kp2
    generalize o3.isSome = sb at kq kq2
    generalize o1.getD val0 = x at kp f3
    generalize o2.getD val0 = y at kp2 f3
    generalize o3.getD val0 = z at kq g3 g4
    generalize o4.getD val0 = v at kq2 g3 g4
    obtain ⟨xu, xe, xl, xt⟩ := x
    obtain ⟨yu, ye, yl, yt⟩ := y
    obtain ⟨zu, ze, zl, zt⟩ := z
    obtain ⟨vu, ve, vl, vt⟩ := v
    dsimp only at f3 g3 g4
    replace f3 := f3.symm
    replace g3 := g3.symm
    replace g4 := g4.symm
    subst f3 g3 g4
    unfold Val.agg at kp kp2 kq kq2
    dsimp only at kp kp2 kq kq2
    have KP1 := Lib.hid kp
    have KP2 := Lib.hid kp2
    have KQ1 := Lib.hid kq
    have KQ2 := Lib.hid kq2
    clear kp kp2 kq kq2 f2 g2 hmem hxm hrb hof hra HTWO KR
    obtain ⟨Ad2, cd2, hvd, hlc, hc, hcr⟩ := Hd.out.open_
    injection hvd with v1 v2 v3
    subst v1 v3
    unfold maxLen at hc
    obtain ⟨bb, off, rfl, hbb, hcell⟩ := hcr hpos
    have c0 := hcell _ (Grew.refl _) (m % ra.length) hkl
    rw [hxi] at c0
    have hposz : (0 : Int) < (ra.length : Int) := by omega
    have hmod : (m : Int) % (ra.length : Int) = ((m % ra.length : Nat) : Int) := by omega
    have hmod2 : (m : Int).tmod (ra.length : Int) = ((m % ra.length : Nat) : Int) := by rw [Int.tmod_eq_emod_of_nonneg (by omega)]; exact hmod
    have hkz : ((m % ra.length : Nat) : Int) < (ra.length : Int) := by omega
    have hk0 : (0 : Int) ≤ ((m % ra.length : Nat) : Int) := by omega
    have hne0 : ((ra.length : Int) == 0) = false := hl0z
    have hrl0 : ¬ (ra.length : Int) = 0 := by omega
    generalize m % ra.length = k at hkl hmod hmod2 hkz hk0 c0 hxi
    have HI := Lib.hid hi
    have hib : (i : Int) < 1025 := by have := HF.out.2.2; omega
    have hiz : ¬ (i : Int) < 0 := by omega
    have hiz2 : ¬ (vs.length : Int) ≤ (i : Int) := by omega
    have hiz3 : decide ((vs.length : Int) ≤ (i : Int)) = false := by simpa using hiz2
    have hiz4 : decide ((i : Int) < 0) = false := by simp
    clear hcell hbb hcr Hd hxi hi hl0
    go_wp2_with fail
    refine (KDV.out _ HG.out HF.out).mono ?_
    rintro e w3 ⟨v3, rfl, ho3, g3⟩
    have HO3 := Lib.hid ho3
    have GQ3 := Lib.hid g3
    have HLO := Lib.hid (Nat.le_refl wc.heap.size)
    clear ho3 g3
    obtain ⟨A3, c3, rfl⟩ := own_slice HO3.out
    dsimp only
    clear c0
    go_wp2_with fail
    refine (deleteV _ vs i HI.out _ _ HO3.out (by have := HF.out.2.2; omega)).mono ?_
    rintro e w4 ⟨v4, rfl, ho4, hg4, -⟩
    have hb4 := Below.grown GQ3.out hg4 GQ3.out.size (fun k e => (HO3.out.lt k e).1)
    have GQ4 := Lib.hid (show Grew wc w4 from hb4)
    have HRT := Lib.hid (Rd.of_own ho4)
    obtain ⟨A4, c4, rfl⟩ := own_slice ho4
    have HLEN := Lib.hid (show (vs.eraseIdx i).length ≤ 1025 from Nat.le_trans (List.length_eraseIdx_le ..) HF.out.2.2)
    clear ho4 hg4 hb4 HO3 GQ3 HLO
    replace HG := Lib.hid (HG.out.trans GQ4.out)
    replace HTB := Lib.hid (fun W gg => HTB.out W (Grew.trans GQ4.out gg))
    clear t0 t1
    obtain ⟨t0, t1⟩ := HTB.out _ (Grew.refl _)
    clear hl0z hpos hkl hposz hmod hmod2 hkz hk0 hne0 hrl0 hiz hiz2 hiz3 hiz4 hib
    dsimp only
    go_wp2_with fail
    go_cut [19, 20, 21] from 84 to 96 (fun s1 s2 s3 wx => ValCut3 w4 xu xe xl xt sa e1 s1 s2 s3 wx)
    case first =>
      go_region_held3 (fun W => W.cell? ⟨w.heap.size, 0, none⟩ = some (.slice Ar t.roots.length cr) ∧ W.cell? ⟨w.heap.size, 1, none⟩ = some (.slice Ab t.brs.length cb) ∧ Grew w4 W) (refine heldI w4 _ t0 t1 (by repeat (with_reducible first | exact Grew.refl _ | exact GQ3.out | exact GQ2.out | exact GQ1.out | refine Grew.drew ?_ | refine Grew.alloc ?_ _ | refine Grew.setCell ?_ (by first | exact Nat.le_refl _ | exact GQ3.out.size | exact GQ2.out.size | exact GQ1.out.size | simp) _))) (first | (go_at_call 13; refine (KCS.out _ (HG.out.trans (by repeat (with_reducible first | exact Grew.refl _ | refine Grew.drew ?_ | refine Grew.alloc ?_ _))) HF.out).mono ?_; rintro e w5 ⟨A5, c5, rfl, h5, gq⟩; have GQ1 := Lib.hid (show Grew w4 w5 from Grew.trans (by repeat (with_reducible first | exact Grew.refl _ | refine Grew.drew ?_ | refine Grew.alloc ?_ _)) gq); have HLS := Lib.hid h5; (try (have hdr : Grew (w4.alloc (.cells [.int .i64 0, .int .i64 0, .string ⟨#[]⟩, .string ⟨#[]⟩].toArray 31)).drew w5 := (by with_reducible exact gq); have BX := Lib.hid (heap_keepI (Grew.trans (Grew.refl _).drew hdr) (heap_newI w4 (.cells [.int .i64 0, .int .i64 0, .string ⟨#[]⟩, .string ⟨#[]⟩].toArray 31))))); (try (have hdr : Grew (w4.alloc (.cells [.int .i64 0, .int .i64 0, .string ⟨#[]⟩, .string ⟨#[]⟩].toArray 31)) w5 := (by with_reducible exact gq); have BX := Lib.hid (heap_keepI hdr (heap_newI w4 (.cells [.int .i64 0, .int .i64 0, .string ⟨#[]⟩, .string ⟨#[]⟩].toArray 31))))); clear h5 gq) | (go_at_call 14; refine (KCV.out _ (HG.out.trans (GQ1.out.trans (by repeat (with_reducible first | exact Grew.refl _ | refine Grew.drew ?_ | refine Grew.alloc ?_ _)))) HF.out).mono ?_; rintro e w6 ⟨A6, c6, rfl, h6, gq⟩; have GX := Lib.hid (show Grew w5 w6 from Grew.trans (by repeat (with_reducible first | exact Grew.refl _ | refine Grew.drew ?_ | refine Grew.alloc ?_ _)) gq); have GQ2 := Lib.hid (GQ1.out.trans GX.out); have HLS2 := Lib.hid (HLS.out.mono GX.out); have HLV := Lib.hid h6; (try have BX2 := Lib.hid (heap_keepI GX.out BX.out)); (try (have hdr : Grew (w5.alloc (.cells [.int .i64 0, .int .i64 0, .string ⟨#[]⟩, .string ⟨#[]⟩].toArray 31)).drew w6 := (by with_reducible exact gq); have BX2 := Lib.hid (heap_keepI (Grew.trans (Grew.refl _).drew hdr) (heap_newI w5 (.cells [.int .i64 0, .int .i64 0, .string ⟨#[]⟩, .string ⟨#[]⟩].toArray 31))))); (try (have hdr : Grew (w5.alloc (.cells [.int .i64 0, .int .i64 0, .string ⟨#[]⟩, .string ⟨#[]⟩].toArray 31)) w6 := (by with_reducible exact gq); have BX2 := Lib.hid (heap_keepI hdr (heap_newI w5 (.cells [.int .i64 0, .int .i64 0, .string ⟨#[]⟩, .string ⟨#[]⟩].toArray 31))))); clear h6 gq GX) | (go_at_call 12; refine (KP1.out _ _ _ (HG.out.trans (GQ2.out.trans (by repeat (with_reducible first | exact Grew.refl _ | refine Grew.drew ?_ | refine Grew.alloc ?_ _)))) (HLS2.out.mono (by repeat (with_reducible first | exact Grew.refl _ | refine Grew.drew ?_ | refine Grew.alloc ?_ _))) (HLV.out.mono (by repeat (with_reducible first | exact Grew.refl _ | refine Grew.drew ?_ | refine Grew.alloc ?_ _))) HF.out).mono ?_; rintro e w7 ⟨rfl, gq⟩; have GX := Lib.hid (show Grew w6 w7 from Grew.trans (by repeat (with_reducible first | exact Grew.refl _ | refine Grew.drew ?_ | refine Grew.alloc ?_ _)) gq); have GQ3 := Lib.hid (GQ2.out.trans GX.out); (try have BX3 := Lib.hid (heap_keepI GX.out BX2.out)); (try (have hdr : Grew (w6.alloc (.cells [.int .i64 0, .int .i64 0, .string ⟨#[]⟩, .string ⟨#[]⟩].toArray 31)).drew w7 := (by with_reducible exact gq); have BX3 := Lib.hid (heap_keepI (Grew.trans (Grew.refl _).drew hdr) (heap_newI w6 (.cells [.int .i64 0, .int .i64 0, .string ⟨#[]⟩, .string ⟨#[]⟩].toArray 31))))); (try (have hdr : Grew (w6.alloc (.cells [.int .i64 0, .int .i64 0, .string ⟨#[]⟩, .string ⟨#[]⟩].toArray 31)) w7 := (by with_reducible exact gq); have BX3 := Lib.hid (heap_keepI hdr (heap_newI w6 (.cells [.int .i64 0, .int .i64 0, .string ⟨#[]⟩, .string ⟨#[]⟩].toArray 31))))); (try (have qq := four_cells BX3.out; obtain ⟨⟨q0, q1, q2, q3⟩, z0, z1, z2, z3⟩ := qq)); clear gq GX))
      all_goals go_wp2_with fail
      all_goals go_meet
      all_goals with_reducible first | exact val3 (val_meet2 GQ3.out) | exact val3 (val_meet q0 q1 q2 q3 (Nat.le_refl _) GQ3.out) | exact val3 (val_meet q0 q1 q2 q3 GQ1.out.size GQ3.out) | exact val3 (val_meet q0 q1 q2 q3 GQ2.out.size GQ3.out)
    case rest =>
      obtain ⟨⟨U1, rfl, rfl, u0, u1, u2, u3, GC⟩, rfl⟩ := hcut
      have GR1 := Lib.hid GC.out
      replace HG := Lib.hid (HG.out.trans GC.out)
      replace HTB := Lib.hid (fun W gg => HTB.out W (Grew.trans GC.out gg))
      replace HRT := Lib.hid (HRT.out.mono GC.out)
      clear t0 t1
      obtain ⟨t0, t1⟩ := HTB.out _ (Grew.refl _)
      have u0 := u0.out
      have u1 := u1.out
      have u2 := u2.out
      have u3 := u3.out
      have HX1 := Lib.hid (show ∀ W, Grew wc W → W.cell? ⟨U1, 0, none⟩ = some (.int .i64 xu) ∧ W.cell? ⟨U1, 1, none⟩ = some (.int .i64 xe) ∧ W.cell? ⟨U1, 2, none⟩ = some (.string xl) ∧ W.cell? ⟨U1, 3, none⟩ = some (.string xt) from fun W g => ⟨keep_cell g u0, keep_cell g u1, keep_cell g u2, keep_cell g u3⟩)
      clear u0 u1 u2 u3 GC
      go_wp2_with fail
      go_cut [22, 23, 24] from 97 to 109 (fun s1 s2 s3 wx => ValCut3 wc yu ye yl xt sa e1 s1 s2 s3 wx)
      case first =>
        go_region_held3 (fun W => W.cell? ⟨w.heap.size, 0, none⟩ = some (.slice Ar t.roots.length cr) ∧ W.cell? ⟨w.heap.size, 1, none⟩ = some (.slice Ab t.brs.length cb) ∧ Grew wc W) (refine heldI wc _ t0 t1 (by repeat (with_reducible first | exact Grew.refl _ | exact GQ3.out | exact GQ2.out | exact GQ1.out | refine Grew.drew ?_ | refine Grew.alloc ?_ _ | refine Grew.setCell ?_ (by first | exact Nat.le_refl _ | exact GQ3.out.size | exact GQ2.out.size | exact GQ1.out.size | simp) _))) (first | (go_at_call 13; refine (KCS.out _ (HG.out.trans (by repeat (with_reducible first | exact Grew.refl _ | refine Grew.drew ?_ | refine Grew.alloc ?_ _))) HF.out).mono ?_; rintro e w5 ⟨A5, c5, rfl, h5, gq⟩; have GQ1 := Lib.hid (show Grew wc w5 from Grew.trans (by repeat (with_reducible first | exact Grew.refl _ | refine Grew.drew ?_ | refine Grew.alloc ?_ _)) gq); have HLS := Lib.hid h5; (try (have hdr : Grew (wc.alloc (.cells [.int .i64 0, .int .i64 0, .string ⟨#[]⟩, .string ⟨#[]⟩].toArray 31)).drew w5 := (by with_reducible exact gq); have BX := Lib.hid (heap_keepI (Grew.trans (Grew.refl _).drew hdr) (heap_newI wc (.cells [.int .i64 0, .int .i64 0, .string ⟨#[]⟩, .string ⟨#[]⟩].toArray 31))))); (try (have hdr : Grew (wc.alloc (.cells [.int .i64 0, .int .i64 0, .string ⟨#[]⟩, .string ⟨#[]⟩].toArray 31)) w5 := (by with_reducible exact gq); have BX := Lib.hid (heap_keepI hdr (heap_newI wc (.cells [.int .i64 0, .int .i64 0, .string ⟨#[]⟩, .string ⟨#[]⟩].toArray 31))))); clear h5 gq) | (go_at_call 14; refine (clV _ _ _ (HRT.out.mono (GQ1.out.trans (by repeat (with_reducible first | exact Grew.refl _ | refine Grew.drew ?_ | refine Grew.alloc ?_ _)))) HLEN.out).mono ?_; rintro e w6 ⟨A6, c6, rfl, h6, gq⟩; have GX := Lib.hid (show Grew w5 w6 from Grew.trans (by repeat (with_reducible first | exact Grew.refl _ | refine Grew.drew ?_ | refine Grew.alloc ?_ _)) gq); have GQ2 := Lib.hid (GQ1.out.trans GX.out); have HLS2 := Lib.hid (HLS.out.mono GX.out); have HLV := Lib.hid h6; (try have BX2 := Lib.hid (heap_keepI GX.out BX.out)); (try (have hdr : Grew (w5.alloc (.cells [.int .i64 0, .int .i64 0, .string ⟨#[]⟩, .string ⟨#[]⟩].toArray 31)).drew w6 := (by with_reducible exact gq); have BX2 := Lib.hid (heap_keepI (Grew.trans (Grew.refl _).drew hdr) (heap_newI w5 (.cells [.int .i64 0, .int .i64 0, .string ⟨#[]⟩, .string ⟨#[]⟩].toArray 31))))); (try (have hdr : Grew (w5.alloc (.cells [.int .i64 0, .int .i64 0, .string ⟨#[]⟩, .string ⟨#[]⟩].toArray 31)) w6 := (by with_reducible exact gq); have BX2 := Lib.hid (heap_keepI hdr (heap_newI w5 (.cells [.int .i64 0, .int .i64 0, .string ⟨#[]⟩, .string ⟨#[]⟩].toArray 31))))); clear h6 gq GX) | (go_at_call 12; refine (KP2.out _ _ _ (HG.out.trans (GQ2.out.trans (by repeat (with_reducible first | exact Grew.refl _ | refine Grew.drew ?_ | refine Grew.alloc ?_ _)))) (HLS2.out.mono (by repeat (with_reducible first | exact Grew.refl _ | refine Grew.drew ?_ | refine Grew.alloc ?_ _))) (HLV.out.mono (by repeat (with_reducible first | exact Grew.refl _ | refine Grew.drew ?_ | refine Grew.alloc ?_ _))) HF.out).mono ?_; rintro e w7 ⟨rfl, gq⟩; have GX := Lib.hid (show Grew w6 w7 from Grew.trans (by repeat (with_reducible first | exact Grew.refl _ | refine Grew.drew ?_ | refine Grew.alloc ?_ _)) gq); have GQ3 := Lib.hid (GQ2.out.trans GX.out); (try have BX3 := Lib.hid (heap_keepI GX.out BX2.out)); (try (have hdr : Grew (w6.alloc (.cells [.int .i64 0, .int .i64 0, .string ⟨#[]⟩, .string ⟨#[]⟩].toArray 31)).drew w7 := (by with_reducible exact gq); have BX3 := Lib.hid (heap_keepI (Grew.trans (Grew.refl _).drew hdr) (heap_newI w6 (.cells [.int .i64 0, .int .i64 0, .string ⟨#[]⟩, .string ⟨#[]⟩].toArray 31))))); (try (have hdr : Grew (w6.alloc (.cells [.int .i64 0, .int .i64 0, .string ⟨#[]⟩, .string ⟨#[]⟩].toArray 31)) w7 := (by with_reducible exact gq); have BX3 := Lib.hid (heap_keepI hdr (heap_newI w6 (.cells [.int .i64 0, .int .i64 0, .string ⟨#[]⟩, .string ⟨#[]⟩].toArray 31))))); (try (have qq := four_cells BX3.out; obtain ⟨⟨q0, q1, q2, q3⟩, z0, z1, z2, z3⟩ := qq)); clear gq GX))
        all_goals go_wp2_with fail
        all_goals go_meet
        all_goals with_reducible first | exact val3 (val_meet2 GQ3.out) | exact val3 (val_meet q0 q1 q2 q3 (Nat.le_refl _) GQ3.out) | exact val3 (val_meet q0 q1 q2 q3 GQ1.out.size GQ3.out) | exact val3 (val_meet q0 q1 q2 q3 GQ2.out.size GQ3.out)
      case rest =>
        obtain ⟨⟨U2, rfl, rfl, u0, u1, u2, u3, GC⟩, rfl⟩ := hcut
        have GR2 := Lib.hid GC.out
        replace HG := Lib.hid (HG.out.trans GC.out)
        replace HTB := Lib.hid (fun W gg => HTB.out W (Grew.trans GC.out gg))
        replace HRT := Lib.hid (HRT.out.mono GC.out)
        replace HX1 := Lib.hid (fun W gg => HX1.out W (Grew.trans GC.out gg))
        clear t0 t1
        obtain ⟨t0, t1⟩ := HTB.out _ (Grew.refl _)
        have u0 := u0.out
        have u1 := u1.out
        have u2 := u2.out
        have u3 := u3.out
        have HX2 := Lib.hid (show ∀ W, Grew wc W → W.cell? ⟨U2, 0, none⟩ = some (.int .i64 yu) ∧ W.cell? ⟨U2, 1, none⟩ = some (.int .i64 ye) ∧ W.cell? ⟨U2, 2, none⟩ = some (.string yl) ∧ W.cell? ⟨U2, 3, none⟩ = some (.string xt) from fun W g => ⟨keep_cell g u0, keep_cell g u1, keep_cell g u2, keep_cell g u3⟩)
        clear u0 u1 u2 u3 GC
        go_wp2_with fail
        go_cut [25, 26, 27] from 110 to 122 (fun s1 s2 s3 wx => ValCut3 wc zu ze zl zt sb e3 s1 s2 s3 wx)
        case first =>
          go_region_held3 (fun W => W.cell? ⟨w.heap.size, 0, none⟩ = some (.slice Ar t.roots.length cr) ∧ W.cell? ⟨w.heap.size, 1, none⟩ = some (.slice Ab t.brs.length cb) ∧ Grew wc W) (refine heldI wc _ t0 t1 (by repeat (with_reducible first | exact Grew.refl _ | exact GQ3.out | exact GQ2.out | exact GQ1.out | refine Grew.drew ?_ | refine Grew.alloc ?_ _ | refine Grew.setCell ?_ (by first | exact Nat.le_refl _ | exact GQ3.out.size | exact GQ2.out.size | exact GQ1.out.size | simp) _))) (first | (go_at_call 13; refine (KCS.out _ (HG.out.trans (by repeat (with_reducible first | exact Grew.refl _ | refine Grew.drew ?_ | refine Grew.alloc ?_ _))) HF.out).mono ?_; rintro e w5 ⟨A5, c5, rfl, h5, gq⟩; have GQ1 := Lib.hid (show Grew wc w5 from Grew.trans (by repeat (with_reducible first | exact Grew.refl _ | refine Grew.drew ?_ | refine Grew.alloc ?_ _)) gq); have HLS := Lib.hid h5; (try (have hdr : Grew (wc.alloc (.cells [.int .i64 0, .int .i64 0, .string ⟨#[]⟩, .string ⟨#[]⟩].toArray 31)).drew w5 := (by with_reducible exact gq); have BX := Lib.hid (heap_keepI (Grew.trans (Grew.refl _).drew hdr) (heap_newI wc (.cells [.int .i64 0, .int .i64 0, .string ⟨#[]⟩, .string ⟨#[]⟩].toArray 31))))); (try (have hdr : Grew (wc.alloc (.cells [.int .i64 0, .int .i64 0, .string ⟨#[]⟩, .string ⟨#[]⟩].toArray 31)) w5 := (by with_reducible exact gq); have BX := Lib.hid (heap_keepI hdr (heap_newI wc (.cells [.int .i64 0, .int .i64 0, .string ⟨#[]⟩, .string ⟨#[]⟩].toArray 31))))); clear h5 gq) | (go_at_call 14; refine (KCV.out _ (HG.out.trans (GQ1.out.trans (by repeat (with_reducible first | exact Grew.refl _ | refine Grew.drew ?_ | refine Grew.alloc ?_ _)))) HF.out).mono ?_; rintro e w6 ⟨A6, c6, rfl, h6, gq⟩; have GX := Lib.hid (show Grew w5 w6 from Grew.trans (by repeat (with_reducible first | exact Grew.refl _ | refine Grew.drew ?_ | refine Grew.alloc ?_ _)) gq); have GQ2 := Lib.hid (GQ1.out.trans GX.out); have HLS2 := Lib.hid (HLS.out.mono GX.out); have HLV := Lib.hid h6; (try have BX2 := Lib.hid (heap_keepI GX.out BX.out)); (try (have hdr : Grew (w5.alloc (.cells [.int .i64 0, .int .i64 0, .string ⟨#[]⟩, .string ⟨#[]⟩].toArray 31)).drew w6 := (by with_reducible exact gq); have BX2 := Lib.hid (heap_keepI (Grew.trans (Grew.refl _).drew hdr) (heap_newI w5 (.cells [.int .i64 0, .int .i64 0, .string ⟨#[]⟩, .string ⟨#[]⟩].toArray 31))))); (try (have hdr : Grew (w5.alloc (.cells [.int .i64 0, .int .i64 0, .string ⟨#[]⟩, .string ⟨#[]⟩].toArray 31)) w6 := (by with_reducible exact gq); have BX2 := Lib.hid (heap_keepI hdr (heap_newI w5 (.cells [.int .i64 0, .int .i64 0, .string ⟨#[]⟩, .string ⟨#[]⟩].toArray 31))))); clear h6 gq GX) | (go_at_call 16; refine (KQ1.out _ _ _ (HG.out.trans (GQ2.out.trans (by repeat (with_reducible first | exact Grew.refl _ | refine Grew.drew ?_ | refine Grew.alloc ?_ _)))) (HLS2.out.mono (by repeat (with_reducible first | exact Grew.refl _ | refine Grew.drew ?_ | refine Grew.alloc ?_ _))) (HLV.out.mono (by repeat (with_reducible first | exact Grew.refl _ | refine Grew.drew ?_ | refine Grew.alloc ?_ _))) HF.out).mono ?_; rintro e w7 ⟨rfl, gq⟩; have GX := Lib.hid (show Grew w6 w7 from Grew.trans (by repeat (with_reducible first | exact Grew.refl _ | refine Grew.drew ?_ | refine Grew.alloc ?_ _)) gq); have GQ3 := Lib.hid (GQ2.out.trans GX.out); (try have BX3 := Lib.hid (heap_keepI GX.out BX2.out)); (try (have hdr : Grew (w6.alloc (.cells [.int .i64 0, .int .i64 0, .string ⟨#[]⟩, .string ⟨#[]⟩].toArray 31)).drew w7 := (by with_reducible exact gq); have BX3 := Lib.hid (heap_keepI (Grew.trans (Grew.refl _).drew hdr) (heap_newI w6 (.cells [.int .i64 0, .int .i64 0, .string ⟨#[]⟩, .string ⟨#[]⟩].toArray 31))))); (try (have hdr : Grew (w6.alloc (.cells [.int .i64 0, .int .i64 0, .string ⟨#[]⟩, .string ⟨#[]⟩].toArray 31)) w7 := (by with_reducible exact gq); have BX3 := Lib.hid (heap_keepI hdr (heap_newI w6 (.cells [.int .i64 0, .int .i64 0, .string ⟨#[]⟩, .string ⟨#[]⟩].toArray 31))))); (try (have qq := four_cells BX3.out; obtain ⟨⟨q0, q1, q2, q3⟩, z0, z1, z2, z3⟩ := qq)); clear gq GX))
          all_goals go_wp2_with fail
          all_goals go_meet
          all_goals with_reducible first | exact val3 (val_meet2 GQ3.out) | exact val3 (val_meet q0 q1 q2 q3 (Nat.le_refl _) GQ3.out) | exact val3 (val_meet q0 q1 q2 q3 GQ1.out.size GQ3.out) | exact val3 (val_meet q0 q1 q2 q3 GQ2.out.size GQ3.out)
        case rest =>
          obtain ⟨⟨U3, rfl, rfl, u0, u1, u2, u3, GC⟩, rfl⟩ := hcut
          have GR3 := Lib.hid GC.out
          replace HG := Lib.hid (HG.out.trans GC.out)
          replace HTB := Lib.hid (fun W gg => HTB.out W (Grew.trans GC.out gg))
          replace HRT := Lib.hid (HRT.out.mono GC.out)
          replace HX1 := Lib.hid (fun W gg => HX1.out W (Grew.trans GC.out gg))
          replace HX2 := Lib.hid (fun W gg => HX2.out W (Grew.trans GC.out gg))
          clear t0 t1
          obtain ⟨t0, t1⟩ := HTB.out _ (Grew.refl _)
          have u0 := u0.out
          have u1 := u1.out
          have u2 := u2.out
          have u3 := u3.out
          have HX3 := Lib.hid (show ∀ W, Grew wc W → W.cell? ⟨U3, 0, none⟩ = some (.int .i64 zu) ∧ W.cell? ⟨U3, 1, none⟩ = some (.int .i64 ze) ∧ W.cell? ⟨U3, 2, none⟩ = some (.string zl) ∧ W.cell? ⟨U3, 3, none⟩ = some (.string zt) from fun W g => ⟨keep_cell g u0, keep_cell g u1, keep_cell g u2, keep_cell g u3⟩)
          clear u0 u1 u2 u3 GC
          go_wp2_with fail
          go_cut [28, 29, 30] from 123 to 135 (fun s1 s2 s3 wx => ValCut3 wc vu ve zl zt sb e3 s1 s2 s3 wx)
          case first =>
            go_region_held3 (fun W => W.cell? ⟨w.heap.size, 0, none⟩ = some (.slice Ar t.roots.length cr) ∧ W.cell? ⟨w.heap.size, 1, none⟩ = some (.slice Ab t.brs.length cb) ∧ Grew wc W) (refine heldI wc _ t0 t1 (by repeat (with_reducible first | exact Grew.refl _ | exact GQ3.out | exact GQ2.out | exact GQ1.out | refine Grew.drew ?_ | refine Grew.alloc ?_ _ | refine Grew.setCell ?_ (by first | exact Nat.le_refl _ | exact GQ3.out.size | exact GQ2.out.size | exact GQ1.out.size | simp) _))) (first | (go_at_call 13; refine (KCS.out _ (HG.out.trans (by repeat (with_reducible first | exact Grew.refl _ | refine Grew.drew ?_ | refine Grew.alloc ?_ _))) HF.out).mono ?_; rintro e w5 ⟨A5, c5, rfl, h5, gq⟩; have GQ1 := Lib.hid (show Grew wc w5 from Grew.trans (by repeat (with_reducible first | exact Grew.refl _ | refine Grew.drew ?_ | refine Grew.alloc ?_ _)) gq); have HLS := Lib.hid h5; (try (have hdr : Grew (wc.alloc (.cells [.int .i64 0, .int .i64 0, .string ⟨#[]⟩, .string ⟨#[]⟩].toArray 31)).drew w5 := (by with_reducible exact gq); have BX := Lib.hid (heap_keepI (Grew.trans (Grew.refl _).drew hdr) (heap_newI wc (.cells [.int .i64 0, .int .i64 0, .string ⟨#[]⟩, .string ⟨#[]⟩].toArray 31))))); (try (have hdr : Grew (wc.alloc (.cells [.int .i64 0, .int .i64 0, .string ⟨#[]⟩, .string ⟨#[]⟩].toArray 31)) w5 := (by with_reducible exact gq); have BX := Lib.hid (heap_keepI hdr (heap_newI wc (.cells [.int .i64 0, .int .i64 0, .string ⟨#[]⟩, .string ⟨#[]⟩].toArray 31))))); clear h5 gq) | (go_at_call 14; refine (clV _ _ _ (HRT.out.mono (GQ1.out.trans (by repeat (with_reducible first | exact Grew.refl _ | refine Grew.drew ?_ | refine Grew.alloc ?_ _)))) HLEN.out).mono ?_; rintro e w6 ⟨A6, c6, rfl, h6, gq⟩; have GX := Lib.hid (show Grew w5 w6 from Grew.trans (by repeat (with_reducible first | exact Grew.refl _ | refine Grew.drew ?_ | refine Grew.alloc ?_ _)) gq); have GQ2 := Lib.hid (GQ1.out.trans GX.out); have HLS2 := Lib.hid (HLS.out.mono GX.out); have HLV := Lib.hid h6; (try have BX2 := Lib.hid (heap_keepI GX.out BX.out)); (try (have hdr : Grew (w5.alloc (.cells [.int .i64 0, .int .i64 0, .string ⟨#[]⟩, .string ⟨#[]⟩].toArray 31)).drew w6 := (by with_reducible exact gq); have BX2 := Lib.hid (heap_keepI (Grew.trans (Grew.refl _).drew hdr) (heap_newI w5 (.cells [.int .i64 0, .int .i64 0, .string ⟨#[]⟩, .string ⟨#[]⟩].toArray 31))))); (try (have hdr : Grew (w5.alloc (.cells [.int .i64 0, .int .i64 0, .string ⟨#[]⟩, .string ⟨#[]⟩].toArray 31)) w6 := (by with_reducible exact gq); have BX2 := Lib.hid (heap_keepI hdr (heap_newI w5 (.cells [.int .i64 0, .int .i64 0, .string ⟨#[]⟩, .string ⟨#[]⟩].toArray 31))))); clear h6 gq GX) | (go_at_call 16; refine (KQ2.out _ _ _ (HG.out.trans (GQ2.out.trans (by repeat (with_reducible first | exact Grew.refl _ | refine Grew.drew ?_ | refine Grew.alloc ?_ _)))) (HLS2.out.mono (by repeat (with_reducible first | exact Grew.refl _ | refine Grew.drew ?_ | refine Grew.alloc ?_ _))) (HLV.out.mono (by repeat (with_reducible first | exact Grew.refl _ | refine Grew.drew ?_ | refine Grew.alloc ?_ _))) HF.out).mono ?_; rintro e w7 ⟨rfl, gq⟩; have GX := Lib.hid (show Grew w6 w7 from Grew.trans (by repeat (with_reducible first | exact Grew.refl _ | refine Grew.drew ?_ | refine Grew.alloc ?_ _)) gq); have GQ3 := Lib.hid (GQ2.out.trans GX.out); (try have BX3 := Lib.hid (heap_keepI GX.out BX2.out)); (try (have hdr : Grew (w6.alloc (.cells [.int .i64 0, .int .i64 0, .string ⟨#[]⟩, .string ⟨#[]⟩].toArray 31)).drew w7 := (by with_reducible exact gq); have BX3 := Lib.hid (heap_keepI (Grew.trans (Grew.refl _).drew hdr) (heap_newI w6 (.cells [.int .i64 0, .int .i64 0, .string ⟨#[]⟩, .string ⟨#[]⟩].toArray 31))))); (try (have hdr : Grew (w6.alloc (.cells [.int .i64 0, .int .i64 0, .string ⟨#[]⟩, .string ⟨#[]⟩].toArray 31)) w7 := (by with_reducible exact gq); have BX3 := Lib.hid (heap_keepI hdr (heap_newI w6 (.cells [.int .i64 0, .int .i64 0, .string ⟨#[]⟩, .string ⟨#[]⟩].toArray 31))))); (try (have qq := four_cells BX3.out; obtain ⟨⟨q0, q1, q2, q3⟩, z0, z1, z2, z3⟩ := qq)); clear gq GX))
            all_goals go_wp2_with fail
            all_goals go_meet
            all_goals with_reducible first | exact val3 (val_meet2 GQ3.out) | exact val3 (val_meet q0 q1 q2 q3 (Nat.le_refl _) GQ3.out) | exact val3 (val_meet q0 q1 q2 q3 GQ1.out.size GQ3.out) | exact val3 (val_meet q0 q1 q2 q3 GQ2.out.size GQ3.out)
          case rest =>
            obtain ⟨⟨U4, rfl, rfl, u0, u1, u2, u3, GC⟩, rfl⟩ := hcut
            have GR4 := Lib.hid GC.out
            replace HG := Lib.hid (HG.out.trans GC.out)
            replace HTB := Lib.hid (fun W gg => HTB.out W (Grew.trans GC.out gg))
            replace HRT := Lib.hid (HRT.out.mono GC.out)
            replace HX1 := Lib.hid (fun W gg => HX1.out W (Grew.trans GC.out gg))
            replace HX2 := Lib.hid (fun W gg => HX2.out W (Grew.trans GC.out gg))
            replace HX3 := Lib.hid (fun W gg => HX3.out W (Grew.trans GC.out gg))
            clear t0 t1
            obtain ⟨t0, t1⟩ := HTB.out _ (Grew.refl _)
            have u0 := u0.out
            have u1 := u1.out
            have u2 := u2.out
            have u3 := u3.out
            have HX4 := Lib.hid (show ∀ W, Grew wc W → W.cell? ⟨U4, 0, none⟩ = some (.int .i64 vu) ∧ W.cell? ⟨U4, 1, none⟩ = some (.int .i64 ve) ∧ W.cell? ⟨U4, 2, none⟩ = some (.string zl) ∧ W.cell? ⟨U4, 3, none⟩ = some (.string zt) from fun W g => ⟨keep_cell g u0, keep_cell g u1, keep_cell g u2, keep_cell g u3⟩)
            clear u0 u1 u2 u3 GC
            obtain ⟨b10, b11, b12, b13⟩ := HX1.out _ (Grew.refl _)
            obtain ⟨b20, b21, b22, b23⟩ := HX2.out _ (Grew.refl _)
            obtain ⟨b30, b31, b32, b33⟩ := HX3.out _ (Grew.refl _)
            obtain ⟨b40, b41, b42, b43⟩ := HX4.out _ (Grew.refl _)
            clear t0 t1
            go_wp2
            go_ret
            exact ⟨rfl, HG.out⟩
end Go.Proofs.YtmbpeniaefpljaaGreatDoor
