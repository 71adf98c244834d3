/- The law InheritSource, walked, its awake given. The condition: the library's own variables hold what they must. -/
import Derived.Test.YtmbpeniaefpljaaGreatDoorQ37
import Derived.Test.YtmbpeniaefpljaaGreatDoorQ3
import Derived.Test.YtmbpeniaefpljaaGreatDoorQ19
namespace Go.Proofs.YtmbpeniaefpljaaGreatDoor
open Go.RowKit

theorem source_two (t : Tr) (ls : List ByteArray) (vs : List Val) (u n : Int) (lang : ByteArray) : ((foundR t ls vs u n lang).1 = none) ∨ ((foundR t ls vs u n lang).2 = 0 ∧ RightT t ∧ ∃ b, brFind t.brs u = some b ∧ ∃ x, (foundR t ls vs u n lang).1 = some x ∧ foundF t.brs vs u n lang = some x) := by
  unfold foundR
  by_cases h : askI t ls vs u n lang = 0
  · rw [if_pos h]
    obtain ⟨h1, ⟨b, hb⟩, -⟩ := askI_zero.1 h
    cases hf : foundF t.brs vs u n lang with
    | none => exact .inl rfl
    | some x => exact .inr ⟨rfl, h1.1, b, hb, x, rfl, rfl⟩
  · rw [if_neg h]
    exact .inl rfl
theorem path_of {t : Tr} {u : Int} {b : Br} (h : brFind t.brs u = some b) : pathR t.brs u = (pathF t.brs b, 0) := by
  unfold pathR
  rw [h]
theorem get_opt {vs : List Val} {u n : Int} {lang : ByteArray} {o : Option ByteArray} (h : getF vs u n lang = o) (v : Value) (w : World) (hv : SlV w v vs) :
    Calls Tryz.prog 28 #[v, .int .i64 u, .int .i64 n, .string lang] w fun e w' => e = .returned (.tuple #[.string (optS o), .bool o.isSome]) ∧ Grew w w' := by
  rw [← h]
  exact get_any vs u n lang v w hv
set_option maxHeartbeats 16000000 in
set_option maxRecDepth 100000 in
theorem source_of (t : Tr) (ls : List ByteArray) (vs : List Val) (u n : Int) (lang : ByteArray) (rv bv lv vv : Value) (w : World) (hE : Env w) (hr : SlI w rv t.roots) (hb : SlBr w bv t.brs) (hl : SlS w lv ls) (hvv : SlV w vv vs) (hA : ∀ W, Grew w W → Calls Tryz.prog 10 #[] W fun e w' => e = .returned (.bool true) ∧ Grew W w') :
    Calls Tryz.prog 9 #[.agg #[rv, bv], lv, vv, .int .i64 u, .int .i64 n, .string lang] w fun e w' => e = .returned (.bool true) ∧ Grew w w' := by
  have KA := Lib.hid hA
  have KW := Lib.hid (fun ms mv W (hW : Grew w W) (hm : SlS W mv ms) => fewLawI t ls vs ms rv bv lv vv mv W (hr.mono hW) (hb.mono hW) (hl.mono hW) (hvv.mono hW) hm)
  have KCS := Lib.hid (fun W (hW : Grew w W) (hf : FewI t ls vs) => clS ls lv W (hl.mono hW) hf.2.1)
  have KCV := Lib.hid (fun W (hW : Grew w W) (hf : FewI t ls vs) => clV vs vv W (hvv.mono hW) hf.2.2)
  have kP := fun lv' vv' W (hW : Grew w W) (hl' : SlS W lv' ls) (hv' : SlV W vv' vs) (hf : FewI t ls vs) => iFoundX t ls vs u n lang rv bv lv' vv' W (hE.mono hW) (hr.mono hW) (hb.mono hW) hf.1.br hf.1.rs hl' hv'
  have kT := fun (hT : RightT t) W (hW : Grew w W) (hf : FewI t ls vs) => tPath t.roots t.brs u rv bv W (hE.mono hW) (hr.mono hW) (hb.mono hW) hf.1.br hf.1.rs hT
  have HTWO := Lib.hid (source_two t ls vs u n lang)
  unfold RetVE at kP
  generalize foundR t ls vs u n lang = R at kP HTWO
  obtain ⟨ro, re⟩ := R
  dsimp only at kP HTWO
  generalize hrs : ro.isSome = rs at kP
  generalize hx : ro.getD val0 = x at kP
  have HRX := Lib.hid (And.intro hrs hx)
  obtain ⟨xu, xe, xl, xt⟩ := x
  unfold Val.agg at kP
  dsimp only at kP
  have KP := Lib.hid kP
  have KT := Lib.hid kT
  clear kP kT hrs hx
  obtain ⟨Ar, cr, rfl, -⟩ := hr.open_
  obtain ⟨Ab, cb, rfl, -⟩ := hb.open_
  clear hE hr hb hl hvv hA
  go_enter Tryz.func9, Tryz.ntmps9
  go_wp2_with fail
  refine (KA.out _ ((Grew.refl w).alloc _)).mono ?_
  rintro e wa ⟨rfl, ga⟩
  have t0 := new_cell ga 0 _ rfl
  have t1 := new_cell ga 1 _ rfl
  have HTB := Lib.hid (show ∀ W, Grew wa W → W.cell? ⟨w.heap.size, 0, none⟩ = some (.slice Ar t.roots.length cr) ∧ W.cell? ⟨w.heap.size, 1, none⟩ = some (.slice Ab t.brs.length cb) from fun W g => ⟨keep_cell g t0, keep_cell g t1⟩)
  have HG := Lib.hid (((Grew.refl w).alloc _).trans ga)
  clear ga
  dsimp only
  go_wp2_with fail
  refine (KW.out _ _ _ (HG.out.alloc _) (lit1S _ _)).mono ?_
  rintro e wb ⟨q, rfl, hq, gb⟩
  have HQ := Lib.hid hq
  have GB := Lib.hid (Grew.trans ((Grew.refl wa).alloc _) gb)
  clear hq gb
  replace HG := Lib.hid (HG.out.trans GB.out)
  replace HTB := Lib.hid (fun W gg => HTB.out W (Grew.trans GB.out gg))
  clear t0 t1
  obtain ⟨t0, t1⟩ := HTB.out _ (Grew.refl _)
  dsimp only
  cases q
  · clear HQ
    go_wp2_with fail
    refine (KA.out _ HG.out).mono ?_
    rintro e wz ⟨rfl, g3⟩
    have HG3 := Lib.hid (HG.out.trans g3)
    clear g3
    dsimp only
    go_wp2
    go_ret
    exact ⟨rfl, HG3.out⟩
  have HF := Lib.hid (HQ.out (by first | rfl | trivial))
  clear HQ
  go_wp2_with fail
  go_cut [13, 14, 15] from 37 to 49 (fun s1 s2 s3 wx => ValCut3 wb xu xe xl xt rs re s1 s2 s3 wx)
  case first =>
    go_region_held3 (fun W => W.cell? ⟨w.heap.size, 0, none⟩ = some (.slice Ar t.roots.length cr) ∧ W.cell? ⟨w.heap.size, 1, none⟩ = some (.slice Ab t.brs.length cb) ∧ Grew wb W) (refine heldI wb _ t0 t1 (by repeat (with_reducible first | exact Grew.refl _ | exact GQ3.out | exact GQ2.out | exact GQ1.out | refine Grew.drew ?_ | refine Grew.alloc ?_ _ | refine Grew.setCell ?_ (by first | exact Nat.le_refl _ | exact GQ3.out.size | exact GQ2.out.size | exact GQ1.out.size | simp) _))) (first | (go_at_call 13; refine (KCS.out _ (HG.out.trans (by repeat (with_reducible first | exact Grew.refl _ | refine Grew.drew ?_ | refine Grew.alloc ?_ _))) HF.out).mono ?_; rintro e w5 ⟨A5, c5, rfl, h5, gq⟩; have GQ1 := Lib.hid (show Grew wb w5 from Grew.trans (by repeat (with_reducible first | exact Grew.refl _ | refine Grew.drew ?_ | refine Grew.alloc ?_ _)) gq); have HLS := Lib.hid h5; (try (have hdr : Grew (wb.alloc (.cells [.int .i64 0, .int .i64 0, .string ⟨#[]⟩, .string ⟨#[]⟩].toArray 31)).drew w5 := (by with_reducible exact gq); have BX := Lib.hid (heap_keepI (Grew.trans (Grew.refl _).drew hdr) (heap_newI wb (.cells [.int .i64 0, .int .i64 0, .string ⟨#[]⟩, .string ⟨#[]⟩].toArray 31))))); (try (have hdr : Grew (wb.alloc (.cells [.int .i64 0, .int .i64 0, .string ⟨#[]⟩, .string ⟨#[]⟩].toArray 31)) w5 := (by with_reducible exact gq); have BX := Lib.hid (heap_keepI hdr (heap_newI wb (.cells [.int .i64 0, .int .i64 0, .string ⟨#[]⟩, .string ⟨#[]⟩].toArray 31))))); clear h5 gq) | (go_at_call 14; refine (KCV.out _ (HG.out.trans (GQ1.out.trans (by repeat (with_reducible first | exact Grew.refl _ | refine Grew.drew ?_ | refine Grew.alloc ?_ _)))) HF.out).mono ?_; rintro e w6 ⟨A6, c6, rfl, h6, gq⟩; have GX := Lib.hid (show Grew w5 w6 from Grew.trans (by repeat (with_reducible first | exact Grew.refl _ | refine Grew.drew ?_ | refine Grew.alloc ?_ _)) gq); have GQ2 := Lib.hid (GQ1.out.trans GX.out); have HLS2 := Lib.hid (HLS.out.mono GX.out); have HLV := Lib.hid h6; (try have BX2 := Lib.hid (heap_keepI GX.out BX.out)); (try (have hdr : Grew (w5.alloc (.cells [.int .i64 0, .int .i64 0, .string ⟨#[]⟩, .string ⟨#[]⟩].toArray 31)).drew w6 := (by with_reducible exact gq); have BX2 := Lib.hid (heap_keepI (Grew.trans (Grew.refl _).drew hdr) (heap_newI w5 (.cells [.int .i64 0, .int .i64 0, .string ⟨#[]⟩, .string ⟨#[]⟩].toArray 31))))); (try (have hdr : Grew (w5.alloc (.cells [.int .i64 0, .int .i64 0, .string ⟨#[]⟩, .string ⟨#[]⟩].toArray 31)) w6 := (by with_reducible exact gq); have BX2 := Lib.hid (heap_keepI hdr (heap_newI w5 (.cells [.int .i64 0, .int .i64 0, .string ⟨#[]⟩, .string ⟨#[]⟩].toArray 31))))); clear h6 gq GX) | (go_at_call 12; refine (KP.out _ _ _ (HG.out.trans (GQ2.out.trans (by repeat (with_reducible first | exact Grew.refl _ | refine Grew.drew ?_ | refine Grew.alloc ?_ _)))) (HLS2.out.mono (by repeat (with_reducible first | exact Grew.refl _ | refine Grew.drew ?_ | refine Grew.alloc ?_ _))) (HLV.out.mono (by repeat (with_reducible first | exact Grew.refl _ | refine Grew.drew ?_ | refine Grew.alloc ?_ _))) HF.out).mono ?_; rintro e w7 ⟨rfl, gq⟩; have GX := Lib.hid (show Grew w6 w7 from Grew.trans (by repeat (with_reducible first | exact Grew.refl _ | refine Grew.drew ?_ | refine Grew.alloc ?_ _)) gq); have GQ3 := Lib.hid (GQ2.out.trans GX.out); (try have BX3 := Lib.hid (heap_keepI GX.out BX2.out)); (try (have hdr : Grew (w6.alloc (.cells [.int .i64 0, .int .i64 0, .string ⟨#[]⟩, .string ⟨#[]⟩].toArray 31)).drew w7 := (by with_reducible exact gq); have BX3 := Lib.hid (heap_keepI (Grew.trans (Grew.refl _).drew hdr) (heap_newI w6 (.cells [.int .i64 0, .int .i64 0, .string ⟨#[]⟩, .string ⟨#[]⟩].toArray 31))))); (try (have hdr : Grew (w6.alloc (.cells [.int .i64 0, .int .i64 0, .string ⟨#[]⟩, .string ⟨#[]⟩].toArray 31)) w7 := (by with_reducible exact gq); have BX3 := Lib.hid (heap_keepI hdr (heap_newI w6 (.cells [.int .i64 0, .int .i64 0, .string ⟨#[]⟩, .string ⟨#[]⟩].toArray 31))))); (try (have qq := four_cells BX3.out; obtain ⟨⟨q0, q1, q2, q3⟩, z0, z1, z2, z3⟩ := qq)); clear gq GX))
    all_goals go_wp2_with fail
    all_goals go_meet
    all_goals with_reducible first | exact val3 (val_meet2 GQ3.out) | exact val3 (val_meet q0 q1 q2 q3 (Nat.le_refl _) GQ3.out) | exact val3 (val_meet q0 q1 q2 q3 GQ1.out.size GQ3.out) | exact val3 (val_meet q0 q1 q2 q3 GQ2.out.size GQ3.out)
  case rest =>
    obtain ⟨⟨U1, rfl, rfl, u0, u1, u2, u3, GC⟩, rfl⟩ := hcut
    have GR1 := Lib.hid GC.out
    replace HG := Lib.hid (HG.out.trans GC.out)
    replace HTB := Lib.hid (fun W gg => HTB.out W (Grew.trans GC.out gg))
    clear t0 t1
    obtain ⟨t0, t1⟩ := HTB.out _ (Grew.refl _)
    have u0 := u0.out
    have u1 := u1.out
    have u2 := u2.out
    have u3 := u3.out
    have HX1 := Lib.hid (show ∀ W, Grew wc W → W.cell? ⟨U1, 0, none⟩ = some (.int .i64 xu) ∧ W.cell? ⟨U1, 1, none⟩ = some (.int .i64 xe) ∧ W.cell? ⟨U1, 2, none⟩ = some (.string xl) ∧ W.cell? ⟨U1, 3, none⟩ = some (.string xt) from fun W g => ⟨keep_cell g u0, keep_cell g u1, keep_cell g u2, keep_cell g u3⟩)
    clear u0 u1 u2 u3 GC
    obtain ⟨hrs, hrx⟩ := HRX.out
    rcases HTWO.out with hno | ⟨h0, hT, b, hb, x, hx, hf⟩
    · subst hno
      obtain rfl : rs = false := hrs.symm
      injection hrx with i1 i2 i3 i4
      subst i1 i2 i3 i4
      obtain ⟨b10, b11, b12, b13⟩ := HX1.out _ (Grew.refl _)
      clear HTWO HRX hrs t0 t1 KT KP
      by_cases hz : re = 0
      · subst hz
        go_wp2
        go_ret
        exact ⟨rfl, HG.out⟩
      · have hb : (re != 0) = true := by simpa using hz
        go_wp2
        go_ret
        exact ⟨rfl, HG.out⟩
    subst h0 hx
    obtain rfl : rs = true := hrs.symm
    obtain rfl : x = ⟨xu, xe, xl, xt⟩ := hrx
    obtain ⟨i, hi, h1, h2, h3, h4, h5, h6, h7⟩ := source_plain hT hb hf
    dsimp only at h1 h2 h3 h4 h5 h6 h7
    replace h4 := h4.symm
    replace h5 := h5.symm
    subst h4 h5
    have hpl := hi
    have kt := KT.out hT
    rw [path_of hb] at kt
    dsimp only at kt
    generalize pathF t.brs b = P at hi h1 h2 h7 kt
    have hix : idxP (fun y => (xu == y)) P = (i : Int) := idxP_hit _ P i hi (by rw [h1]; simp) (fun j hj hji => by have := h2 j hj hji; simpa using fun e => this e.symm)
    have KTP := Lib.hid kt
    have HIX := Lib.hid hix
    have KG := Lib.hid (fun v W (hv : SlV W v vs) => get_opt h3 v W hv)
    have KN := Lib.hid (fun j hj hji v W (hv : SlV W v vs) => get_opt (h7 j hj hji) v W hv)
    have HINH := Lib.hid h6
    have HIP := Lib.hid hi
    clear HTWO HRX hrs hT hb hf h1 h2 h3 h6 h7 kt hix KT KP hpl
    obtain ⟨b10, b11, b12, b13⟩ := HX1.out _ (Grew.refl _)
    go_wp2_with fail
    refine (KTP.out _ HG.out HF.out).mono ?_
    rintro e w2 ⟨pv, rfl, hp, gq⟩
    have GQ2 := Lib.hid gq
    have Hp := Lib.hid hp
    clear gq hp
    replace HG := Lib.hid (HG.out.trans GQ2.out)
    replace HTB := Lib.hid (fun W gg => HTB.out W (Grew.trans GQ2.out gg))
    replace HX1 := Lib.hid (fun W gg => HX1.out W (Grew.trans GQ2.out gg))
    clear t0 t1
    obtain ⟨t0, t1⟩ := HTB.out _ (Grew.refl _)
    obtain ⟨Ap, cp, rfl, hlc, hc, hcr⟩ := Hp.out.open_
    unfold maxLen at hc
    clear hcr b10 b11 b12 b13
    obtain ⟨b10, b11, b12, b13⟩ := HX1.out _ (Grew.refl _)
    dsimp only
    go_wp2_with fail
    refine (indexI P xu _ _ Hp.out).mono ?_
    rintro e w8 ⟨rfl, rfl⟩
    rw [HIX.out]
    dsimp only
    go_wp2_with fail
    go_cut [19, 20] from 73 to 82 (fun s19 s20 wx => s19 = .string xt ∧ s20 = .bool true ∧ Aside (Grew w2 wx))
    case first =>
      go_region_held3 (fun W => W.cell? ⟨U1, 0, none⟩ = some (.int .i64 xu) ∧ Grew w2 W) (exact ⟨keep_cell (by repeat (with_reducible first | exact Grew.refl _ | exact GQ7.out | exact GQ6.out | refine Grew.drew ?_ | refine Grew.alloc ?_ _ | refine Grew.setCell ?_ (by first | exact Nat.le_refl _ | exact GQ7.out.size | exact GQ6.out.size | simp) _)) b10, (by repeat (with_reducible first | exact Grew.refl _ | exact GQ7.out | exact GQ6.out | refine Grew.drew ?_ | refine Grew.alloc ?_ _ | refine Grew.setCell ?_ (by first | exact Nat.le_refl _ | exact GQ7.out.size | exact GQ6.out.size | simp) _))⟩) (first | (go_at_call 14; refine (KCV.out _ (HG.out.trans (by repeat (with_reducible first | exact Grew.refl _ | refine Grew.drew ?_ | refine Grew.alloc ?_ _))) HF.out).mono ?_; rintro e w6 ⟨A6, c6, rfl, h6, gq⟩; have GQ6 := Lib.hid (show Grew w2 w6 from Grew.trans (by repeat (with_reducible first | exact Grew.refl _ | refine Grew.drew ?_ | refine Grew.alloc ?_ _)) gq); have HLV := Lib.hid h6; clear h6 gq) | (go_at_call 28; refine (KG.out _ _ (HLV.out.mono (by repeat (with_reducible first | exact Grew.refl _ | refine Grew.drew ?_ | refine Grew.alloc ?_ _)))).mono ?_; rintro e w7 ⟨rfl, gq⟩; have GQ7 := Lib.hid (show Grew w2 w7 from GQ6.out.trans (Grew.trans (by repeat (with_reducible first | exact Grew.refl _ | refine Grew.drew ?_ | refine Grew.alloc ?_ _)) gq)); clear gq))
      all_goals go_wp2_with fail
      all_goals go_meet
      all_goals exact ⟨rfl, rfl, (show Aside _ from GQ7.out)⟩
    case rest =>
      obtain ⟨rfl, rfl, GC8⟩ := hcut
      replace Hp := Lib.hid (Hp.out.mono GC8.out)
      replace HG := Lib.hid (HG.out.trans GC8.out)
      replace HTB := Lib.hid (fun W gg => HTB.out W (Grew.trans GC8.out gg))
      replace HX1 := Lib.hid (fun W gg => HX1.out W (Grew.trans GC8.out gg))
      clear t0 t1
      obtain ⟨t0, t1⟩ := HTB.out _ (Grew.refl _)
      have hiz : ¬ (i : Int) < 0 := by omega
      clear b10 b11 b12 b13 GC8
      obtain ⟨b10, b11, b12, b13⟩ := HX1.out _ (Grew.refl _)
      have hdn : decide ((i : Int) < 0) = false := by simp
      have KINH := Lib.hid (fun W => inherited_any n W)
      have hinh := HINH.out
      generalize (kindOf n).inh = inh at KINH hinh
      have HH := Lib.hid hinh
      clear hinh HINH
      have hst : (xt.toList != xt.toList) = false := by simp
      skip
      go_wp2_with fail
      refine (KINH.out _).mono ?_
      rintro e w9 ⟨rfl, gq⟩
      have GQ9 := Lib.hid gq
      replace Hp := Lib.hid (Hp.out.mono gq)
      clear gq b10 b11 b12 b13
      replace HG := Lib.hid (HG.out.trans GQ9.out)
      replace HTB := Lib.hid (fun W gg => HTB.out W (Grew.trans GQ9.out gg))
      replace HX1 := Lib.hid (fun W gg => HX1.out W (Grew.trans GQ9.out gg))
      clear t0 t1
      obtain ⟨t0, t1⟩ := HTB.out _ (Grew.refl _)
      obtain ⟨b10, b11, b12, b13⟩ := HX1.out _ (Grew.refl _)
      clear t0 t1
      dsimp only
      have hk0 := HIP.out
      have hk1 : i + 1 ≤ P.length := hk0
      obtain ⟨i0, hi, hz0, hz1, hz2⟩ := info_parts cinfoI
      have e2 := part_from (P := Tryz.prog) Tryz.underlying22 hi hz1 Ap P.length cp (i + 1) hk1
      have HS := Lib.hid (show SlI w9 (sufV Ap P.length cp (i + 1) 1) (P.drop (i + 1)) from by
        have h := sufV_rd (k := i + 1) Hp.out hk1
        rw [(flat_take (f := oneI) (k := 1) (fun _ => rfl) P (i + 1)).2] at h
        exact h)
      obtain ⟨As, cs, hsv, hls, hcs, hrs⟩ := HS.out.open_
      rw [hsv] at e2
      have HRS := Lib.hid hrs
      unfold maxLen at hcs
      clear HS hsv hrs
      have hdl : (P.drop (i + 1)).length = P.length - (i + 1) := List.length_drop
      have HDG := Lib.hid (fun k (h : k < (P.drop (i + 1)).length) => (List.getElem_drop (xs := P) (i := i + 1) (j := k) (h := h)))
      have KN2 := Lib.hid (fun k (h : k < (P.drop (i + 1)).length) v W (hv : SlV W v vs) => (show Calls Tryz.prog 28 #[v, .int .i64 (P.drop (i + 1))[k], .int .i64 n, .string lang] W _ by rw [HDG.out k h]; exact KN.out (i + 1 + k) (by rw [hdl] at h; omega) (by omega) v W hv))
      clear HDG KN
      have hcast : ((i + 1 : Nat) : Int) = (i : Int) + 1 := by omega
      rw [hcast] at e2
      generalize P.drop (i + 1) = Q at e2 HRS KN2 hdl hls
      clear hdl
      cases inh with
      | true =>
        go_wp2_with fail
        go_loopg [127] Q.length (fun gg s127 wr => ∃ k : Nat, k ≤ Q.length ∧ Q.length - k ≤ gg ∧ s127 = .int .i64 (k : Int) ∧ Aside (Grew w9 wr))
        case atStart => exact ⟨0, by omega, by omega, rfl, (show Aside _ from Grew.refl _)⟩
        case round =>
          obtain ⟨k, hk, hgk, rfl, GW⟩ := hrel
          by_cases hlt : k < Q.length
          · have hltz : (k : Int) < (Q.length : Int) := by omega
            have h0z : (0 : Int) ≤ (k : Int) := by omega
            obtain ⟨bb, off, rfl, hbb, hcell⟩ := HRS.out (by omega)
            have c0 := hcell wr GW.out k hlt
            have kn := KN2.out k hlt
            generalize Q[k] = y at c0 kn
            have KNY := Lib.hid kn
            clear kn hcell
            unfold optS at KNY
            dsimp only [Option.getD_none, Option.isSome_none] at KNY
            go_wp2_with fail
            refine (KCV.out _ (HG.out.trans GW.out) HF.out).mono ?_
            rintro e wa ⟨Aa, ca, rfl, ha, ga⟩
            have GA := Lib.hid (GW.out.trans ga)
            have HA5 := Lib.hid ha
            clear ha ga c0
            dsimp only
            go_wp2_with fail
            refine (KNY.out _ _ HA5.out).mono ?_
            rintro e wb ⟨rfl, gb⟩
            have GB := Lib.hid (GA.out.trans gb)
            clear gb
            dsimp only
            go_wp2
            go_roundg (Q.length - (k + 1))
            case measure => omega
            case rel => exact ⟨k + 1, by omega, by omega, by go_num, (show Aside _ from GB.out)⟩
          · have hltz : ¬ (k : Int) < (Q.length : Int) := by omega
            obtain rfl : k = Q.length := by omega
            have HGE := Lib.hid (HG.out.trans GW.out)
            go_wp2
            go_ret
            exact ⟨rfl, HGE.out⟩
      | false =>
        obtain rfl := HH.out rfl
        go_wp2_with fail
        go_loopg [127] Q.length (fun gg s127 wr => ∃ k : Nat, k ≤ Q.length ∧ Q.length - k ≤ gg ∧ s127 = .int .i64 (k : Int) ∧ Aside (Grew w9 wr))
        case atStart => exact ⟨0, by omega, by omega, rfl, (show Aside _ from Grew.refl _)⟩
        case round =>
          obtain ⟨k, hk, hgk, rfl, GW⟩ := hrel
          by_cases hlt : k < Q.length
          · have hltz : (k : Int) < (Q.length : Int) := by omega
            have h0z : (0 : Int) ≤ (k : Int) := by omega
            obtain ⟨bb, off, rfl, hbb, hcell⟩ := HRS.out (by omega)
            have c0 := hcell wr GW.out k hlt
            have kn := KN2.out k hlt
            generalize Q[k] = y at c0 kn
            have KNY := Lib.hid kn
            clear kn hcell
            unfold optS at KNY
            dsimp only [Option.getD_none, Option.isSome_none] at KNY
            go_wp2_with fail
            refine (KCV.out _ (HG.out.trans GW.out) HF.out).mono ?_
            rintro e wa ⟨Aa, ca, rfl, ha, ga⟩
            have GA := Lib.hid (GW.out.trans ga)
            have HA5 := Lib.hid ha
            clear ha ga c0
            dsimp only
            go_wp2_with fail
            refine (KNY.out _ _ HA5.out).mono ?_
            rintro e wb ⟨rfl, gb⟩
            have GB := Lib.hid (GA.out.trans gb)
            clear gb
            dsimp only
            go_wp2
            go_roundg (Q.length - (k + 1))
            case measure => omega
            case rel => exact ⟨k + 1, by omega, by omega, by go_num, (show Aside _ from GB.out)⟩
          · have hltz : ¬ (k : Int) < (Q.length : Int) := by omega
            obtain rfl : k = Q.length := by omega
            have HGE := Lib.hid (HG.out.trans GW.out)
            go_wp2
            go_ret
            exact ⟨rfl, HGE.out⟩
end Go.Proofs.YtmbpeniaefpljaaGreatDoor
