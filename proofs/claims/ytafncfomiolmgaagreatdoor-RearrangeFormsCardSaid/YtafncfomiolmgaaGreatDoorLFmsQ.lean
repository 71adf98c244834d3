/- The law RearrangeForms, walked, its awake given. The condition: the library's own variables hold what they must. -/
import Derived.Test.YtafncfomiolmgaaGreatDoorQ26
import Derived.Test.YtafncfomiolmgaaGreatDoorQ29
namespace Go.Proofs.YtafncfomiolmgaaGreatDoor
open Go.RowKit

set_option maxHeartbeats 8000000 in
set_option maxRecDepth 100000 in
theorem forms_of (o : Opn) (w : World) (hE : Env w) (hA : ∀ W, Grew w W → Calls Tryz.prog 11 #[] W fun e w' => e = .returned (.bool true) ∧ Grew W w') : Calls Tryz.prog 3 #[o.agg] w fun e w' => e = .returned (.bool true) ∧ Grew w w' := by
  have KA := Lib.hid hA
  have kW := fun W => few21_any o W
  have kT := fun W (hW : Grew w W) => rText21 o W (hE.mono hW)
  have kF := fun W (hW : Grew w W) => fFormedX o W (hE.mono hW)
  have kR := fun W (hm : FewO o) => ref21Text o W (by have := hm.2; omega)
  have kG := fun W (hm : FewO o) => refFormed21 o W (by have := hm.2; omega)
  have HAll := Lib.hid (fun W (g : Grew (w.alloc (.cells o.cells.toArray 25)) W) => opn_all o g)
  generalize FewO o = FO at kW kR kG
  generalize textR o = RES at kT kR
  obtain ⟨TX, n⟩ := RES
  generalize (if formedO o = true then (0 : Int) else 1) = N at kF kG
  obtain ⟨i, d, k, u, p, b, l, tt, m, x9, x10, x11⟩ := o
  unfold Opn.agg at kW kT kF kR kG ⊢
  unfold Opn.cells at HAll
  dsimp only at kW kT kF kR kG HAll ⊢
  have KW := Lib.hid kW
  have KT := Lib.hid kT
  have KF := Lib.hid kF
  have KR := Lib.hid kR
  have KG := Lib.hid kG
  clear kW kT kF kR kG hA hE
  go_enter Tryz.func3, Tryz.ntmps3
  go_wp2_with fail
  refine (KA.out _ ((Grew.refl w).alloc _)).mono ?_
  rintro e w1 ⟨rfl, g1⟩
  obtain ⟨a0, a1, a2, a3, a4, a5, a6, a7, a8, a9, a10, a11⟩ := HAll.out w1 g1
  have GB := Lib.hid g1
  have HG1 := Lib.hid (((Grew.refl w).alloc _).trans g1)
  clear g1
  dsimp only
  go_wp2_with fail
  refine (KW.out _).mono ?_
  rintro e w2 ⟨q, rfl, hq, g2⟩
  have HQ := Lib.hid hq
  replace GB := Lib.hid (GB.out.trans g2)
  have HG2 := Lib.hid (HG1.out.trans g2)
  clear hq g2 a0 a1 a2 a3 a4 a5 a6 a7 a8 a9 a10 a11 HG1
  dsimp only
  cases q
  · clear HQ
    go_wp2_with fail
    refine (KA.out _ HG2.out).mono ?_
    rintro e w3 ⟨rfl, g3⟩
    have HG3 := Lib.hid (HG2.out.trans g3)
    clear g3
    dsimp only
    go_wp2
    go_ret
    exact ⟨rfl, HG3.out⟩
  · have HF := Lib.hid (HQ.out rfl)
    clear HQ
    obtain ⟨a0, a1, a2, a3, a4, a5, a6, a7, a8, a9, a10, a11⟩ := HAll.out w2 GB.out
    go_wp2_with fail
    refine (KT.out _ HG2.out).mono ?_
    rintro e w3 ⟨rfl, g3⟩
    replace GB := Lib.hid (GB.out.trans g3)
    have HG3 := Lib.hid (HG2.out.trans g3)
    clear g3 a0 a1 a2 a3 a4 a5 a6 a7 a8 a9 a10 a11 HG2
    obtain ⟨a0, a1, a2, a3, a4, a5, a6, a7, a8, a9, a10, a11⟩ := HAll.out w3 GB.out
    dsimp only
    go_wp2_with fail
    refine (KR.out _ HF.out).mono ?_
    rintro e w4 ⟨rfl, g4⟩
    replace GB := Lib.hid (GB.out.trans g4)
    have HG4 := Lib.hid (HG3.out.trans g4)
    clear g4 a0 a1 a2 a3 a4 a5 a6 a7 a8 a9 a10 a11 HG3
    obtain ⟨a0, a1, a2, a3, a4, a5, a6, a7, a8, a9, a10, a11⟩ := HAll.out w4 GB.out
    dsimp only
    go_wp2_with fail
    have f0 := Gr.cell a0
    have f1 := Gr.cell a1
    have f2 := Gr.cell a2
    have f3 := Gr.cell a3
    have f4 := Gr.cell a4
    have f5 := Gr.cell a5
    have f6 := Gr.cell a6
    have f7 := Gr.cell a7
    have f8 := Gr.cell a8
    have f9 := Gr.cell a9
    have f10 := Gr.cell a10
    have f11 := Gr.cell a11
    clear a0 a1 a2 a3 a4 a5 a6 a7 a8 a9 a10 a11
    refine region_gr w4 (by kernel_rfl) (by kernel_rfl) (Grew.refl _) ?_
    repeat (first | go_big_quiet_step ((exact Gr.calls _ (by with_reducible first | exact KF.out _ (HG4.out.trans (Gr.g _)) | exact KG.out _ HF.out))) | quiet_step ((exact Gr.calls _ (by with_reducible first | exact KF.out _ (HG4.out.trans (Gr.g _)) | exact KG.out _ HF.out))))
    refine wpQuiet_nil ?_
    intro _ hw'
    obtain ⟨wi, rfl⟩ := hw'
    have HWI := Lib.hid (HG4.out.trans wi.g)
    clear f0 f1 f2 f3 f4 f5 f6 f7 f8 f9 f10 f11
    go_wp2
    go_ret
    exact ⟨ret_bool (by simp), HWI.out⟩
end Go.Proofs.YtafncfomiolmgaaGreatDoor
