/- The law RearrangeTogether, walked, its awake given. The condition: the library's own variables hold what they must. -/
import Derived.Test.YtafncfomiolmgaaGreatDoorQ31
import Derived.Test.YtafncfomiolmgaaGreatDoorQ16
import Derived.Test.YtafncfomiolmgaaGreatDoorQ3
import Derived.Test.YtafncfomiolmgaaGreatDoorQ4
namespace Go.Proofs.YtafncfomiolmgaaGreatDoor
open Go.RowKit

set_option maxHeartbeats 16000000 in
set_option maxRecDepth 100000 in
theorem together_of (t : Tr) (o : Opn) (rv bv : Value) (w : World) (hE : Env w) (hr : SlI w rv t.roots) (hb : SlBr w bv t.brs) (hkw : (Lit.int .i64 o.kind).wf = true) (hA : ∀ W, Grew w W → Calls Tryz.prog 11 #[] W fun e w' => e = .returned (.bool true) ∧ Grew W w') : Calls Tryz.prog 9 #[.agg #[rv, bv], o.agg] w fun e w' => e = .returned (.bool true) ∧ Grew w w' := by
  have KA := Lib.hid hA
  have kW := fun W (hW : Grew w W) => fewLaw t o rv bv W (hr.mono hW) (hb.mono hW)
  have kC := fun W (hW : Grew w W) (hf : FewTM t.roots t.brs) => cpTr t rv bv W (hr.mono hW) (hb.mono hW) hf.br hf.rs
  have kC2 := fun (x : Tr) W rx bx (ht : TrOk W rx bx x) (hx : RightT x) => cpTr x rx bx W ht.1 ht.2 (right_few hx).1 (right_few hx).2
  have kP := fun W rx bx (hW : Grew w W) (ht : TrOk W rx bx t) (hf : FewTM t.roots t.brs) => rApply t o rx bx W (hE.mono hW) ht.1 ht.2 hf.br hf.rs hkw
  have kB := fun (x : Tr) id W rx bx (hW : Grew w W) (ht : TrOk W rx bx x) (hx : RightT x) => (tBelowX x.roots x.brs id rx bx W (hE.mono hW) ht.1 ht.2 (right_few hx).1 (right_few hx).2).mono fun _ _ h => h.is_
  have kK := fun (x : Tr) id W rx bx (hW : Grew w W) (ht : TrOk W rx bx x) (hx : RightT x) => tKidsX x.roots x.brs id rx bx W (hE.mono hW) ht.1 ht.2 (right_few hx).1 (right_few hx).2
  have hP := fun h h2 => together_plain (t := t) (o := o) h h2
  generalize applyR t o = R at kP hP
  obtain ⟨U, n⟩ := R
  have KK := Lib.hid kK
  have KB := Lib.hid kB
  clear kK kB hE
  obtain ⟨Ar, cr, rfl, -⟩ := hr.open_
  obtain ⟨Ab, cb, rfl, -⟩ := hb.open_
  have HB := Lib.hid (fun (r b : Value) W (g : Grew ((w.alloc (.cells [r, b].toArray 35)).alloc (.cells o.cells.toArray 25)) W) => law_cells o g)
  generalize hFO : FewO o = FO at kW
  obtain ⟨i, d, k, u, p, b, l, tt, m, x9, x10, x11⟩ := o
  unfold Opn.agg at kW kP ⊢
  unfold Opn.cells at HB
  dsimp only at kW kP HB ⊢
  dsimp only at hP
  have HP := Lib.hid hP
  clear hP
  have KW := Lib.hid kW
  have KP := Lib.hid kP
  have KC := Lib.hid kC
  have KC2 := Lib.hid kC2
  clear kW kP kC kC2 hr hb hA
  go_enter Tryz.func9, Tryz.ntmps9
  go_wp2_with fail
  refine (KA.out _ (((Grew.refl w).alloc _).alloc _)).mono ?_
  rintro e wa ⟨rfl, ga⟩
  have hh := HB.out _ _ wa ga
  have HG1 := Lib.hid ((((Grew.refl w).alloc _).alloc _).trans ga)
  have HS1 := Lib.hid hh
  clear ga HB
  obtain ⟨r0, b0, a0, a1, a2, a3, a4, a5, a6, a7, a8, a9, a10, a11⟩ := hh
  dsimp only
  go_wp2_with fail
  refine (KW.out _ HG1.out).mono ?_
  rintro e wb ⟨q, rfl, hq, gb⟩
  have HS0 := Lib.hid (law_grow HS1.out gb)
  have HG2 := Lib.hid (HG1.out.trans gb)
  have HQ := Lib.hid hq
  clear hq gb HG1 HS1 r0 b0 a0 a1 a2 a3 a4 a5 a6 a7 a8 a9 a10 a11
  dsimp only
  cases q
  · clear HQ
    go_wp2_with fail
    refine (KA.out _ HG2.out).mono ?_
    rintro e wz ⟨rfl, g3⟩
    have HG3 := Lib.hid (HG2.out.trans g3)
    clear g3
    dsimp only
    go_wp2
    go_ret
    exact ⟨rfl, HG3.out⟩
  have HF := Lib.hid (HQ.out rfl).1
  clear HQ
  obtain ⟨r0, b0, a0, a1, a2, a3, a4, a5, a6, a7, a8, a9, a10, a11⟩ := HS0.out
  by_cases hk : k = 2
  rotate_left
  · have hkb : (k != 2) = true := by simpa using hk
    clear HF
    go_wp2_with fail
    refine (KA.out _ HG2.out).mono ?_
    rintro e w3 ⟨rfl, g3⟩
    have HG3 := Lib.hid (HG2.out.trans g3)
    clear g3
    dsimp only
    go_wp2
    go_ret
    exact ⟨rfl, HG3.out⟩
  have hkb : (k != 2) = false := by simpa using hk
  have HK := Lib.hid hk
  clear hk
  go_wp2_with fail
  clear r0 b0 a0 a1 a2 a3 a4 a5 a6 a7 a8 a9 a10 a11
  go_cut [5, 6] from 28 to 35 (fun s5 s6 wx => ApCut wb (U, (n : Int)) s5 s6 wx)
  case first =>
    as_aux_lemma =>
    go_region_held3 (fun W => W.cell? ⟨w.heap.size, 0, none⟩ = some (.slice Ar t.roots.length cr) ∧ W.cell? ⟨w.heap.size, 1, none⟩ = some (.slice Ab t.brs.length cb) ∧ W.cell? ⟨w.heap.size + 1, 0, none⟩ = some (.int .i64 i) ∧ W.cell? ⟨w.heap.size + 1, 1, none⟩ = some (.int .i64 d) ∧ W.cell? ⟨w.heap.size + 1, 2, none⟩ = some (.int .i64 k) ∧ W.cell? ⟨w.heap.size + 1, 3, none⟩ = some (.int .i64 u) ∧ W.cell? ⟨w.heap.size + 1, 4, none⟩ = some (.int .i64 p) ∧ W.cell? ⟨w.heap.size + 1, 5, none⟩ = some (.int .i64 b) ∧ W.cell? ⟨w.heap.size + 1, 6, none⟩ = some (.int .i64 l) ∧ W.cell? ⟨w.heap.size + 1, 7, none⟩ = some (.string tt) ∧ W.cell? ⟨w.heap.size + 1, 8, none⟩ = some (.string m) ∧ W.cell? ⟨w.heap.size + 1, 9, none⟩ = some (.int .i64 x9) ∧ W.cell? ⟨w.heap.size + 1, 10, none⟩ = some (.int .i64 x10) ∧ W.cell? ⟨w.heap.size + 1, 11, none⟩ = some (.int .i64 x11)) (exact law_grow HS0.out (by repeat (first | exact Grew.refl _ | exact GB2.out | exact GB1.out | refine Grew.drew ?_ | refine Grew.alloc ?_ _ | refine Grew.setCell ?_ (by first | exact Nat.le_refl _ | exact GB1.out.size | exact GB2.out.size | simp) _))) (first | (go_at_call 19; refine (KC.out _ (HG2.out.trans (by repeat (first | exact Grew.refl _ | refine Grew.drew ?_ | refine Grew.alloc ?_ _))) HF.out).mono ?_; rintro e w1 ⟨rv1, bv1, rfl, ht1, g1⟩; have GB1 := Lib.hid (show Grew wb w1 from Grew.trans (by repeat (first | exact Grew.refl _ | refine Grew.drew ?_ | refine Grew.alloc ?_ _)) g1); obtain ⟨A1, k1, rfl, -⟩ := SlI.open_ ht1.1; obtain ⟨A2, k2, rfl, -⟩ := SlBr.open_ ht1.2; have HT1 := Lib.hid ht1; (first | have Na1 := Lib.hid (show Grew (wb.alloc (.cells [.slice none 0 0, .slice none 0 0].toArray 35)) w1 from Grew.trans (Grew.refl _).drew g1) | have Na1 := Lib.hid (show Grew (wb.alloc (.cells [.slice none 0 0, .slice none 0 0].toArray 35)) w1 from Grew.trans (Grew.refl _) g1) | skip); clear ht1 g1) | (go_at_call 18; refine (KP.out _ _ _ (HG2.out.trans (by repeat (first | exact Grew.refl _ | exact GB1.out | refine Grew.drew ?_ | refine Grew.alloc ?_ _))) (HT1.out.mono (by repeat (first | exact Grew.refl _ | refine Grew.drew ?_ | refine Grew.alloc ?_ _))) HF.out).mono ?_; rintro e w2 ⟨rv2, bv2, rfl, ht2, g2⟩; have GX := Lib.hid (show Grew w1 w2 from Grew.trans (by repeat (first | exact Grew.refl _ | refine Grew.drew ?_ | refine Grew.alloc ?_ _)) g2); have GB2 := Lib.hid (GB1.out.trans GX.out); obtain ⟨B1, l1, rfl, -⟩ := SlI.open_ ht2.1; obtain ⟨B2, l2, rfl, -⟩ := SlBr.open_ ht2.2; have HT2 := Lib.hid ht2; (try have PA := heap_grew (Na1.out.trans GX.out) (heap_allocE (a := wb) (p := (.cells [.slice none 0 0, .slice none 0 0].toArray 35)) rfl)); (first | have PB := heap_grew (show Grew (w1.alloc (.cells [.slice none 0 0, .slice none 0 0].toArray 35)) w2 from Grew.trans (Grew.refl _).drew g2) (heap_allocE (a := w1) (p := (.cells [.slice none 0 0, .slice none 0 0].toArray 35)) rfl) | have PB := heap_grew (show Grew (w1.alloc (.cells [.slice none 0 0, .slice none 0 0].toArray 35)) w2 from Grew.trans (Grew.refl _) g2) (heap_allocE (a := w1) (p := (.cells [.slice none 0 0, .slice none 0 0].toArray 35)) rfl) | skip); (try have pa0 := (zt_facts PA).1); (try have pa1 := (zt_facts PA).2.1); (try have pa2 := (zt_facts PA).2.2.1); (try have pa3 := (zt_facts PA).2.2.2); (try have pb0 := (zt_facts PB).1); (try have pb1 := (zt_facts PB).2.1); (try have pb2 := (zt_facts PB).2.2.1); (try have pb3 := (zt_facts PB).2.2.2); clear ht2 g2))
    all_goals go_wp2_with fail
    all_goals go_meet
    all_goals first | exact ap_meet2 GB2.out HT2.out | exact ap_meet PA (Nat.le_refl _) GB2.out HT2.out | exact ap_meet PB GB1.out.size GB2.out HT2.out
  case rest =>
    as_aux_lemma =>
      obtain ⟨X, rvU, bvU, rfl, rfl, x0, x1, hTU, hgU⟩ := hcut
      have HSU := Lib.hid (law_grow HS0.out hgU)
      have HGU := Lib.hid (HG2.out.trans hgU)
      by_cases hn : n = 0
      rotate_left
      · have hnb : (n != 0) = true := by simpa using hn
        clear HP
        go_wp2
        go_ret
        exact ⟨rfl, HGU.out⟩
      subst hn
      obtain ⟨hRt, hRU, hB1, hB2, K, hK, ix, hix, hx1, hx2, hx3, hx4⟩ := HP.out rfl HK.out
      have HRU := Lib.hid hRU
      have hidx := idxP_hit (fun y => u == y) K ix hix (by rw [hx1]; simp) (fun j hj hji => by have := hx2 j hj hji; simp only [beq_eq_false_iff_ne, ne_eq]; exact fun e => this e.symm)
      have HX3 := Lib.hid hx3
      have HX4 := Lib.hid hx4
      have HIX := Lib.hid hix
      clear hx1 hx2 hx3 hx4 HP KP
      have kb1 : ∀ W rx bx, Grew w W → TrOk W rx bx t → Calls Tryz.prog 34 #[.agg #[rx, bx], .int .i64 u] W (RetIs (belowT t u, 0) W) := fun W rx bx hW ht => by
        have := KB.out t u W rx bx hW ht hRt
        rw [show belowR ⟨t.roots, t.brs⟩ u = _ from hB1] at this
        exact this
      have kb2 : ∀ W rx bx, Grew w W → TrOk W rx bx U → Calls Tryz.prog 34 #[.agg #[rx, bx], .int .i64 u] W (RetIs (belowT t u, 0) W) := fun W rx bx hW ht => by
        have := KB.out U u W rx bx hW ht hRU
        rw [show belowR ⟨U.roots, U.brs⟩ u = _ from hB2] at this
        exact this
      have kk1 : ∀ W rx bx, Grew w W → TrOk W rx bx U → Calls Tryz.prog 29 #[.agg #[rx, bx], .int .i64 p] W (RetIs (K, 0) W) := fun W rx bx hW ht => by
        have := KK.out U p W rx bx hW ht hRU
        rw [show kidsR ⟨U.roots, U.brs⟩ p = _ from hK] at this
        exact this
      clear hB1 hB2 hK hRt hRU KB KK hix
      generalize belowT t u = LB at kb1 kb2
      have KB1 := Lib.hid kb1
      have KB2 := Lib.hid kb2
      have KK1 := Lib.hid kk1
      have HID := Lib.hid hidx
      clear kb1 kb2 kk1 hidx
      have HX := Lib.hid (show wc.cell? ⟨X, 0, none⟩ = some rvU ∧ wc.cell? ⟨X, 1, none⟩ = some bvU ∧ TrOk wc rvU bvU U from ⟨x0, x1, hTU⟩)
      obtain ⟨A5, k5, rfl, -⟩ := SlI.open_ hTU.1
      obtain ⟨B5, l5, rfl, -⟩ := SlBr.open_ hTU.2
      clear x0 x1 hTU hgU
      go_wp2_with fail
      have HL6 := Lib.hid (show wc.cell? ⟨w.heap.size, 0, none⟩ = some _ ∧ wc.cell? ⟨w.heap.size, 1, none⟩ = some _ ∧ wc.cell? ⟨w.heap.size + 1, 3, none⟩ = some _ from ⟨HSU.out.1, HSU.out.2.1, HSU.out.2.2.2.2.2.1⟩)
      go_region_held3 (fun W => W.cell? ⟨w.heap.size, 0, none⟩ = some (.slice Ar t.roots.length cr) ∧ W.cell? ⟨w.heap.size, 1, none⟩ = some (.slice Ab t.brs.length cb) ∧ W.cell? ⟨w.heap.size + 1, 3, none⟩ = some (.int .i64 u)) (exact three_grow HL6.out (by repeat (first | exact Grew.refl _ | exact G4.out | exact G3.out | refine Grew.drew ?_ | refine Grew.alloc ?_ _))) (first | (go_at_call 19; refine (KC.out _ (HGU.out.trans (by repeat (first | exact Grew.refl _ | refine Grew.drew ?_ | refine Grew.alloc ?_ _))) HF.out).mono ?_; rintro e w3 ⟨rv3, bv3, rfl, ht3, g3⟩; have G3 := Lib.hid (show Grew wc w3 from Grew.trans (by repeat (first | exact Grew.refl _ | refine Grew.drew ?_ | refine Grew.alloc ?_ _)) g3); obtain ⟨Ax3, kx3, rfl, -⟩ := SlI.open_ ht3.1; obtain ⟨Bx3, lx3, rfl, -⟩ := SlBr.open_ ht3.2; have HT3 := Lib.hid ht3; clear ht3 g3) | (go_at_call 34; refine (KB1.out _ _ _ (HGU.out.trans (by repeat (first | exact Grew.refl _ | exact G3.out | refine Grew.drew ?_ | refine Grew.alloc ?_ _))) (HT3.out.mono (by repeat (first | exact Grew.refl _ | refine Grew.drew ?_ | refine Grew.alloc ?_ _)))).mono ?_; rintro e w4 ⟨v4, rfl, hv4, g4⟩; have G4 := Lib.hid (show Grew wc w4 from Grew.trans (by repeat (first | exact Grew.refl _ | exact G3.out | refine Grew.drew ?_ | refine Grew.alloc ?_ _)) g4); have HV4 := Lib.hid hv4; clear hv4 g4))
      have HG4 := Lib.hid (HGU.out.trans G4.out)
      clear G3 HT3
      replace HSU := Lib.hid (law_grow HSU.out G4.out)
      replace HX := Lib.hid (show _ ∧ _ ∧ _ from ⟨keep_cell G4.out HX.out.1, keep_cell G4.out HX.out.2.1, HX.out.2.2.mono G4.out⟩)
      clear HL6
      go_wp2_with fail
      have HL7 := Lib.hid (show w4.cell? ⟨X, 0, none⟩ = some _ ∧ w4.cell? ⟨X, 1, none⟩ = some _ ∧ w4.cell? ⟨w.heap.size + 1, 3, none⟩ = some _ from ⟨HX.out.1, HX.out.2.1, HSU.out.2.2.2.2.2.1⟩)
      go_region_held3 (fun W => W.cell? ⟨X, 0, none⟩ = some (.slice A5 U.roots.length k5) ∧ W.cell? ⟨X, 1, none⟩ = some (.slice B5 U.brs.length l5) ∧ W.cell? ⟨w.heap.size + 1, 3, none⟩ = some (.int .i64 u)) (exact three_grow HL7.out (by repeat (first | exact Grew.refl _ | exact G6.out | exact G5.out | refine Grew.drew ?_ | refine Grew.alloc ?_ _))) (first | (go_at_call 19; refine (KC2.out _ _ _ _ (HX.out.2.2.mono (by repeat (first | exact Grew.refl _ | refine Grew.drew ?_ | refine Grew.alloc ?_ _))) HRU.out).mono ?_; rintro e w5 ⟨rv5, bv5, rfl, ht5, g5⟩; have G5 := Lib.hid (show Grew w4 w5 from Grew.trans (by repeat (first | exact Grew.refl _ | refine Grew.drew ?_ | refine Grew.alloc ?_ _)) g5); obtain ⟨Ax5, kx5, rfl, -⟩ := SlI.open_ ht5.1; obtain ⟨Bx5, lx5, rfl, -⟩ := SlBr.open_ ht5.2; have HT5 := Lib.hid ht5; clear ht5 g5) | (go_at_call 34; refine (KB2.out _ _ _ (HG4.out.trans (by repeat (first | exact Grew.refl _ | exact G5.out | refine Grew.drew ?_ | refine Grew.alloc ?_ _))) (HT5.out.mono (by repeat (first | exact Grew.refl _ | refine Grew.drew ?_ | refine Grew.alloc ?_ _)))).mono ?_; rintro e w6 ⟨v6, rfl, hv6, g6⟩; have G6 := Lib.hid (show Grew w4 w6 from Grew.trans (by repeat (first | exact Grew.refl _ | exact G5.out | refine Grew.drew ?_ | refine Grew.alloc ?_ _)) g6); have HV6 := Lib.hid hv6; clear hv6 g6))
      have HG6 := Lib.hid (HG4.out.trans G6.out)
      clear G5 HT5
      replace HSU := Lib.hid (law_grow HSU.out G6.out)
      replace HX := Lib.hid (show _ ∧ _ ∧ _ from ⟨keep_cell G6.out HX.out.1, keep_cell G6.out HX.out.2.1, HX.out.2.2.mono G6.out⟩)
      replace HV4 := Lib.hid (SlI.mono HV4.out G6.out)
      clear HL7
      go_wp2_with fail
      have HL8 := Lib.hid (show w6.cell? ⟨X, 0, none⟩ = some _ ∧ w6.cell? ⟨X, 1, none⟩ = some _ ∧ w6.cell? ⟨w.heap.size + 1, 4, none⟩ = some _ from ⟨HX.out.1, HX.out.2.1, HSU.out.2.2.2.2.2.2.1⟩)
      go_region_held3 (fun W => W.cell? ⟨X, 0, none⟩ = some (.slice A5 U.roots.length k5) ∧ W.cell? ⟨X, 1, none⟩ = some (.slice B5 U.brs.length l5) ∧ W.cell? ⟨w.heap.size + 1, 4, none⟩ = some (.int .i64 p)) (exact three_grow HL8.out (by repeat (first | exact Grew.refl _ | exact G8.out | exact G7.out | refine Grew.drew ?_ | refine Grew.alloc ?_ _))) (first | (go_at_call 19; refine (KC2.out _ _ _ _ (HX.out.2.2.mono (by repeat (first | exact Grew.refl _ | refine Grew.drew ?_ | refine Grew.alloc ?_ _))) HRU.out).mono ?_; rintro e w7 ⟨rv7, bv7, rfl, ht7, g7⟩; have G7 := Lib.hid (show Grew w6 w7 from Grew.trans (by repeat (first | exact Grew.refl _ | refine Grew.drew ?_ | refine Grew.alloc ?_ _)) g7); obtain ⟨Ax7, kx7, rfl, -⟩ := SlI.open_ ht7.1; obtain ⟨Bx7, lx7, rfl, -⟩ := SlBr.open_ ht7.2; have HT7 := Lib.hid ht7; clear ht7 g7) | (go_at_call 29; refine (KK1.out _ _ _ (HG6.out.trans (by repeat (first | exact Grew.refl _ | exact G7.out | refine Grew.drew ?_ | refine Grew.alloc ?_ _))) (HT7.out.mono (by repeat (first | exact Grew.refl _ | refine Grew.drew ?_ | refine Grew.alloc ?_ _)))).mono ?_; rintro e w8 ⟨v8, rfl, hv8, g8⟩; have G8 := Lib.hid (show Grew w6 w8 from Grew.trans (by repeat (first | exact Grew.refl _ | exact G7.out | refine Grew.drew ?_ | refine Grew.alloc ?_ _)) g8); have HV8 := Lib.hid hv8; clear hv8 g8))
      have HG8 := Lib.hid (HG6.out.trans G8.out)
      clear G7 HT7
      replace HSU := Lib.hid (law_grow HSU.out G8.out)
      have HA := Lib.hid (SlI.mono HV4.out G8.out)
      have HB := Lib.hid (SlI.mono HV6.out G8.out)
      clear HL8 HX HV4 HV6 KC KC2 KB1 KB2 KK1
      go_wp2_with fail
      refine (sameL _ _ _ _ HA.out HB.out).mono ?_
      rintro e w9 ⟨rfl, g9⟩
      replace HSU := Lib.hid (law_grow HSU.out g9)
      have HG9 := Lib.hid (HG8.out.trans g9)
      have hV := SlI.mono HV8.out g9
      clear g9 HV8 HA HB
      have KI := Lib.hid (fun v W h => indexI K u v W h)
      have hv9 := hV
      obtain ⟨A9, c9, rfl, hNc, hcm, hcell⟩ := SlI.open_ hv9
      have HV := Lib.hid hV
      have HC := Lib.hid hcell
      clear hV hv9 hcell
      obtain ⟨r0, b0, a0, a1, a2, a3, a4, a5, a6, a7, a8, a9, a10, a11⟩ := HSU.out
      dsimp only
      go_wp2_with fail
      refine (KI.out _ _ HV.out).mono ?_
      rintro e w9 ⟨rfl, rfl⟩
      rw [HID.out]
      clear KI HID
      dsimp only
      have hnn : ¬ ((ix : Int) < 0) := by omega
      have hN1 := HIX.out
      unfold maxLen at hcm
      by_cases hb0 : b = 0
      · have hbb : (b == 0) = true := by simpa using hb0
        have hL := HX3.out hb0
        have hw : IntKind.i64.wrap ((K.length : Int) - 1) = (ix : Int) := by rw [IntWalk.i64_in _ (by omega)]; omega
        clear HX3 HX4 HIX HC HV hN1
        generalize K.length = N at *
        clear hL
        go_wp2
        go_ret
        exact ⟨rfl, HG9.out⟩
      · have hbb : (b == 0) = false := by simpa using hb0
        obtain ⟨hL, hLv⟩ := HX4.out hb0
        obtain ⟨bb, off, rfl, -, hcell⟩ := HC.out (by omega)
        have hc1 := hcell w9 (Grew.refl _) (ix + 1) hL
        rw [hLv] at hc1
        have hn2 : (ix : Int) + 1 < (K.length : Int) := by omega
        have hn3 : ((ix : Int) + 1).toNat = ix + 1 := by omega
        have hn4 : (0 : Int) ≤ (ix : Int) + 1 := by omega
        have hlt0 : decide ((ix : Int) + 1 < (K.length : Int)) = true := decide_eq_true hn2
        clear HX3 HX4 HIX HC HV hcell hLv
        go_wp2_with fail
        go_quiet (fail)
        go_wp2
        go_ret
        exact ⟨rfl, HG9.out.drewN _⟩
end Go.Proofs.YtafncfomiolmgaaGreatDoor
