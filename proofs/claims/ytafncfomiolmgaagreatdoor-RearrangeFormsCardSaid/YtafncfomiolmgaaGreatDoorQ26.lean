/- Lemmas on what the functions of the program and of the library compute: To3. The conditions stand at each. -/
import Derived.Test.YtafncfomiolmgaaGreatDoorQ23
import Derived.Test.YtafncfomiolmgaaGreatDoorQ24
import Derived.Test.YtafncfomiolmgaaGreatDoorQ25
/- The reference's Text of an operation, walked. The condition: the library's own variables hold what they must. -/
namespace Go.Proofs.YtafncfomiolmgaaGreatDoor
open Go.RowKit

set_option maxHeartbeats 2000000 in
theorem ref21TextNo (o : Opn) (w : World) (hmk : o.mark.size ≤ 9223372036854775807) (h : formedO o = false) : Calls Tryz.prog 14 #[o.agg] w fun e w' => e = .returned (.tuple #[.string ⟨#[]⟩, .int .i64 1]) ∧ Grew w w' := by
  have kF := fun W (_ : Grew w W) => refFormed21 o W hmk
  rw [h] at kF
  simp only [Bool.false_eq_true, if_false] at kF
  unfold Opn.agg at kF ⊢
  have K := Lib.hid kF
  clear kF h hmk
  go_enter Tryz.func14, Tryz.ntmps14
  go_wp2_with fail
  refine (K.out _ ((Grew.refl w).alloc _)).mono ?_
  rintro e w1 ⟨rfl, g1⟩
  have HG1 := Lib.hid (((Grew.refl w).alloc _).trans g1)
  clear g1
  dsimp only
  go_wp2
  go_ret2
  exact ⟨rfl, HG1.out⟩
set_option maxHeartbeats 16000000 in
set_option maxRecDepth 100000 in
theorem ref21TextYes (o : Opn) (w : World) (hmk : o.mark.size ≤ 9223372036854775807) (h : formedO o = true) : Calls Tryz.prog 14 #[o.agg] w fun e w' => e = .returned (.tuple #[.string (textOp o), .int .i64 0]) ∧ Grew w w' := by
  have kF := fun W (_ : Grew w W) => refFormed21 o W hmk
  rw [h] at kF
  simp only [if_true] at kF
  obtain ⟨hu, hp, hb, hl, ht, hm, hk⟩ := formed_facts h
  have kU := fun W => refDecimal o.unit (by omega) (by omega) W
  have kP := fun W => refDecimal o.parent (by omega) (by omega) W
  have kB := fun W => refDecimal o.before (by omega) (by omega) W
  have kL := fun (hk : o.kind = 1) W => refDecimal o.level (by have := hl hk; omega) (by have := hl hk; omega) W
  have hsl := fun (hk : o.kind = 1) => itoaB_size o.level (by have := hl hk; omega) (by have := hl hk; omega)
  have hsu := itoaB_size o.unit (by omega) (by omega)
  have hsp := itoaB_size o.parent (by omega) (by omega)
  have hsb := itoaB_size o.before (by omega) (by omega)
  have hall := fun W (g : Grew (w.alloc (.cells o.cells.toArray 25)) W) => opn_all o g
  unfold textOp text1 text4 placeB
  obtain ⟨i, d, k, u, p, b, l, tt, m, x9, x10, x11⟩ := o
  unfold Opn.agg at kF ⊢
  unfold Opn.cells at hall
  dsimp only at hu hp hb hl ht hm hk kF kU kP kB kL hsl hsu hsp hsb hall ⊢
  generalize itoaB u = su at kU hsu ⊢
  generalize itoaB p = sp at kP hsp ⊢
  generalize itoaB b = sb at kB hsb ⊢
  generalize itoaB l = sl at kL hsl ⊢
  clear hu hp hb hl h
  have l7 : (⟨#[32, 98, 101, 108, 111, 119, 32]⟩ : ByteArray).size ≤ 7 := by decide
  have l8 : (⟨#[32, 98, 101, 102, 111, 114, 101, 32]⟩ : ByteArray).size ≤ 8 := by decide
  have l1 : (⟨#[32]⟩ : ByteArray).size ≤ 1 := by decide
  have z1 := cat_size l7 hsp
  have z2 := cat_size z1 l8
  have z3 := cat_size z2 hsb
  have r1 := cat_run l7 hsp (by omega) (by omega)
  have r2 := cat_run z1 l8 (by omega) (by omega)
  have r3 := cat_run z2 hsb (by omega) (by omega)
  have KF := Lib.hid kF
  have KU := Lib.hid kU
  have KP := Lib.hid kP
  have KB := Lib.hid kB
  have HAll := Lib.hid hall
  clear kF kU kP kB hall
  rcases hk with rfl | rfl | rfl | rfl | rfl | rfl
  · have KL := Lib.hid (kL rfl)
    have hsl1 := hsl rfl
    have htl := ht (.inl rfl)
    have hml := (hm (.inl rfl)).1
    have b7 : (⟨#[99, 114, 101, 97, 116, 101, 32]⟩ : ByteArray).size ≤ 7 := by decide
    have v7 : (⟨#[32, 108, 101, 118, 101, 108, 32]⟩ : ByteArray).size ≤ 7 := by decide
    have p2 : (⟨#[32, 91]⟩ : ByteArray).size ≤ 2 := by decide
    have p1 : (⟨#[93]⟩ : ByteArray).size ≤ 1 := by decide
    have y1 := cat_size b7 hsu
    have s1 := cat_run b7 hsu (by omega) (by omega)
    have y2 := cat_size y1 v7
    have s2 := cat_run y1 v7 (by omega) (by omega)
    have y3 := cat_size y2 hsl1
    have s3 := cat_run y2 hsl1 (by omega) (by omega)
    have y4 := cat_size y3 z3
    have s4 := cat_run y3 z3 (by omega) (by omega)
    have y5 := cat_size y4 l1
    have s5 := cat_run y4 l1 (by omega) (by omega)
    have y6 := cat_size y5 htl
    have s6 := cat_run y5 htl (by omega) (by omega)
    have y7 := cat_size p2 hml
    have s7 := cat_run p2 hml (by omega) (by omega)
    have y8 := cat_size y7 p1
    have s8 := cat_run y7 p1 (by omega) (by omega)
    have s9 := cat_run y6 y8 (by omega) (by omega)
    clear kL hsl ht hm hsu hsp hsb hsl1 htl hml b7 v7 p2 p1 l7 l8 l1 z1 z2 z3 y1 y2 y3 y4 y5 y6 y7 y8
    rw [if_pos rfl]
    by_cases he : emptyS m = true
    · rw [if_pos he]
      have he2 : m.toList.isEmpty = true := he
      clear he
      go_enter Tryz.func14, Tryz.ntmps14
      go_wp2_with fail
      refine (KF.out _ ((Grew.refl w).alloc _)).mono ?_
      rintro e w1 ⟨rfl, g1⟩
      have HG1 := Lib.hid g1
      have HW1 := Lib.hid (((Grew.refl w).alloc _).trans g1)
      obtain ⟨_, _, a2, a3, a4, a5, a6, a7, a8, _, _, _⟩ := HAll.out w1 g1
      clear g1
      dsimp only
      go_wp2_with fail
      refine (KU.out _).mono ?_
      rintro e w2 ⟨rfl, g2⟩
      have GX := Lib.hid (HW1.out.trans g2)
      replace a2 := keep_cell g2 a2
      replace a3 := keep_cell g2 a3
      replace a4 := keep_cell g2 a4
      replace a5 := keep_cell g2 a5
      replace a6 := keep_cell g2 a6
      replace a7 := keep_cell g2 a7
      replace a8 := keep_cell g2 a8
      have f2 := Gr.cell a2
      have f3 := Gr.cell a3
      have f4 := Gr.cell a4
      have f5 := Gr.cell a5
      have f6 := Gr.cell a6
      have f7 := Gr.cell a7
      have f8 := Gr.cell a8
      clear g2 HG1 HW1
      dsimp only
      go_wp2_with fail
      refine region_gr w2 (by kernel_rfl) (by kernel_rfl) (Grew.refl _) ?_
      repeat (first | go_big_quiet_step ((exact Gr.calls _ (by with_reducible first | exact KP.out _ | exact KB.out _))) | quiet_step ((exact Gr.calls _ (by with_reducible first | exact KP.out _ | exact KB.out _))))
      refine wpQuiet_nil ?_
      intro _ hw'
      obtain ⟨wi, rfl⟩ := hw'
      have HWI := Lib.hid wi.g
      have GW := Lib.hid (GX.out.trans wi.g)
      replace a2 := keep_cell HWI.out a2
      replace a3 := keep_cell HWI.out a3
      replace a4 := keep_cell HWI.out a4
      replace a5 := keep_cell HWI.out a5
      replace a6 := keep_cell HWI.out a6
      replace a7 := keep_cell HWI.out a7
      replace a8 := keep_cell HWI.out a8
      clear f2 f3 f4 f5 f6 f7 f8
      generalize wi.W = w3 at HWI GW a2 a3 a4 a5 a6 a7 a8 ⊢
      clear wi GX HWI
      have GX := Lib.hid GW.out
      clear GW
      have f6 := Gr.cell a6
      have f7 := Gr.cell a7
      have f8 := Gr.cell a8
      go_wp2_with fail
      refine region_gr w3 (by kernel_rfl) (by kernel_rfl) (Grew.refl _) ?_
      repeat (first | go_big_quiet_step ((exact Gr.calls _ (by with_reducible exact KL.out _))) | quiet_step ((exact Gr.calls _ (by with_reducible exact KL.out _))))
      refine wpQuiet_nil ?_
      intro _ hw'
      obtain ⟨wi, rfl⟩ := hw'
      have HWI := Lib.hid wi.g
      have GW := Lib.hid (GX.out.trans wi.g)
      replace a6 := keep_cell HWI.out a6
      replace a7 := keep_cell HWI.out a7
      replace a8 := keep_cell HWI.out a8
      clear f6 f7 f8
      go_wp2
      go_ret2
      exact ⟨rfl, GW.out⟩
    · rw [if_neg he]
      have he2 : m.toList.isEmpty = false := by
        have h9 : ¬ (m.toList.isEmpty = true) := he
        simpa using h9
      clear he
      go_enter Tryz.func14, Tryz.ntmps14
      go_wp2_with fail
      refine (KF.out _ ((Grew.refl w).alloc _)).mono ?_
      rintro e w1 ⟨rfl, g1⟩
      have HG1 := Lib.hid g1
      have HW1 := Lib.hid (((Grew.refl w).alloc _).trans g1)
      obtain ⟨_, _, a2, a3, a4, a5, a6, a7, a8, _, _, _⟩ := HAll.out w1 g1
      clear g1
      dsimp only
      go_wp2_with fail
      refine (KU.out _).mono ?_
      rintro e w2 ⟨rfl, g2⟩
      have GX := Lib.hid (HW1.out.trans g2)
      replace a2 := keep_cell g2 a2
      replace a3 := keep_cell g2 a3
      replace a4 := keep_cell g2 a4
      replace a5 := keep_cell g2 a5
      replace a6 := keep_cell g2 a6
      replace a7 := keep_cell g2 a7
      replace a8 := keep_cell g2 a8
      have f2 := Gr.cell a2
      have f3 := Gr.cell a3
      have f4 := Gr.cell a4
      have f5 := Gr.cell a5
      have f6 := Gr.cell a6
      have f7 := Gr.cell a7
      have f8 := Gr.cell a8
      clear g2 HG1 HW1
      dsimp only
      go_wp2_with fail
      refine region_gr w2 (by kernel_rfl) (by kernel_rfl) (Grew.refl _) ?_
      repeat (first | go_big_quiet_step ((exact Gr.calls _ (by with_reducible first | exact KP.out _ | exact KB.out _))) | quiet_step ((exact Gr.calls _ (by with_reducible first | exact KP.out _ | exact KB.out _))))
      refine wpQuiet_nil ?_
      intro _ hw'
      obtain ⟨wi, rfl⟩ := hw'
      have HWI := Lib.hid wi.g
      have GW := Lib.hid (GX.out.trans wi.g)
      replace a2 := keep_cell HWI.out a2
      replace a3 := keep_cell HWI.out a3
      replace a4 := keep_cell HWI.out a4
      replace a5 := keep_cell HWI.out a5
      replace a6 := keep_cell HWI.out a6
      replace a7 := keep_cell HWI.out a7
      replace a8 := keep_cell HWI.out a8
      clear f2 f3 f4 f5 f6 f7 f8
      generalize wi.W = w3 at HWI GW a2 a3 a4 a5 a6 a7 a8 ⊢
      clear wi GX HWI
      have GX := Lib.hid GW.out
      clear GW
      have f6 := Gr.cell a6
      have f7 := Gr.cell a7
      have f8 := Gr.cell a8
      go_wp2_with fail
      refine region_gr w3 (by kernel_rfl) (by kernel_rfl) (Grew.refl _) ?_
      repeat (first | go_big_quiet_step ((exact Gr.calls _ (by with_reducible exact KL.out _))) | quiet_step ((exact Gr.calls _ (by with_reducible exact KL.out _))))
      refine wpQuiet_nil ?_
      intro _ hw'
      obtain ⟨wi, rfl⟩ := hw'
      have HWI := Lib.hid wi.g
      have GW := Lib.hid (GX.out.trans wi.g)
      replace a6 := keep_cell HWI.out a6
      replace a7 := keep_cell HWI.out a7
      replace a8 := keep_cell HWI.out a8
      clear f6 f7 f8
      go_wp2
      go_ret2
      exact ⟨rfl, GW.out⟩
  · rw [if_neg (by decide), if_pos rfl]
    have b5 : (⟨#[109, 111, 118, 101, 32]⟩ : ByteArray).size ≤ 5 := by decide
    have y1 := cat_size b5 hsu
    have s1 := cat_run b5 hsu (by omega) (by omega)
    have y2 := cat_size y1 z3
    have s2 := cat_run y1 z3 (by omega) (by omega)
    clear kL hsl ht hm hsu hsp hsb l7 l8 l1 z1 z2 z3 b5 y1 y2
    go_enter Tryz.func14, Tryz.ntmps14
    go_wp2_with fail
    refine (KF.out _ ((Grew.refl w).alloc _)).mono ?_
    rintro e w1 ⟨rfl, g1⟩
    have HG1 := Lib.hid g1
    have HW1 := Lib.hid (((Grew.refl w).alloc _).trans g1)
    obtain ⟨_, _, a2, a3, a4, a5, a6, a7, a8, _, _, _⟩ := HAll.out w1 g1
    clear g1
    dsimp only
    go_wp2_with fail
    refine (KU.out _).mono ?_
    rintro e w2 ⟨rfl, g2⟩
    have GX := Lib.hid (HW1.out.trans g2)
    replace a2 := keep_cell g2 a2
    replace a3 := keep_cell g2 a3
    replace a4 := keep_cell g2 a4
    replace a5 := keep_cell g2 a5
    replace a6 := keep_cell g2 a6
    replace a7 := keep_cell g2 a7
    replace a8 := keep_cell g2 a8
    have f2 := Gr.cell a2
    have f3 := Gr.cell a3
    have f4 := Gr.cell a4
    have f5 := Gr.cell a5
    have f6 := Gr.cell a6
    have f7 := Gr.cell a7
    have f8 := Gr.cell a8
    clear g2 HG1 HW1
    dsimp only
    go_wp2_with fail
    refine region_gr w2 (by kernel_rfl) (by kernel_rfl) (Grew.refl _) ?_
    repeat (first | go_big_quiet_step ((exact Gr.calls _ (by with_reducible first | exact KP.out _ | exact KB.out _))) | quiet_step ((exact Gr.calls _ (by with_reducible first | exact KP.out _ | exact KB.out _))))
    refine wpQuiet_nil ?_
    intro _ hw'
    obtain ⟨wi, rfl⟩ := hw'
    have HWI := Lib.hid wi.g
    have GW := Lib.hid (GX.out.trans wi.g)
    replace a2 := keep_cell HWI.out a2
    replace a3 := keep_cell HWI.out a3
    replace a4 := keep_cell HWI.out a4
    replace a5 := keep_cell HWI.out a5
    replace a6 := keep_cell HWI.out a6
    replace a7 := keep_cell HWI.out a7
    replace a8 := keep_cell HWI.out a8
    clear f2 f3 f4 f5 f6 f7 f8
    go_wp2
    go_ret2
    exact ⟨rfl, GW.out⟩
  · rw [if_neg (by decide), if_neg (by decide), if_pos rfl]
    have b5 : (⟨#[114, 101, 110, 97, 109, 101, 32]⟩ : ByteArray).size ≤ 7 := by decide
    have htl := ht (.inr rfl)
    have y1 := cat_size b5 hsu
    have s1 := cat_run b5 hsu (by omega) (by omega)
    have y2 := cat_size y1 l1
    have s2 := cat_run y1 l1 (by omega) (by omega)
    have y3 := cat_size y2 htl
    have s3 := cat_run y2 htl (by omega) (by omega)
    clear kL hsl ht hm hsu hsp hsb l7 l8 l1 z1 z2 z3 b5 y1 y2 y3 htl
    go_enter Tryz.func14, Tryz.ntmps14
    go_wp2_with fail
    refine (KF.out _ ((Grew.refl w).alloc _)).mono ?_
    rintro e w1 ⟨rfl, g1⟩
    have HG1 := Lib.hid g1
    have HW1 := Lib.hid (((Grew.refl w).alloc _).trans g1)
    obtain ⟨_, _, a2, a3, a4, a5, a6, a7, a8, _, _, _⟩ := HAll.out w1 g1
    clear g1
    dsimp only
    go_wp2_with fail
    refine (KU.out _).mono ?_
    rintro e w2 ⟨rfl, g2⟩
    have GX := Lib.hid (HW1.out.trans g2)
    replace a2 := keep_cell g2 a2
    replace a3 := keep_cell g2 a3
    replace a4 := keep_cell g2 a4
    replace a5 := keep_cell g2 a5
    replace a6 := keep_cell g2 a6
    replace a7 := keep_cell g2 a7
    replace a8 := keep_cell g2 a8
    have f2 := Gr.cell a2
    have f3 := Gr.cell a3
    have f4 := Gr.cell a4
    have f5 := Gr.cell a5
    have f6 := Gr.cell a6
    have f7 := Gr.cell a7
    have f8 := Gr.cell a8
    clear g2 HG1 HW1
    dsimp only
    go_wp2_with fail
    refine region_gr w2 (by kernel_rfl) (by kernel_rfl) (Grew.refl _) ?_
    repeat (first | go_big_quiet_step ((exact Gr.calls _ (by with_reducible first | exact KP.out _ | exact KB.out _))) | quiet_step ((exact Gr.calls _ (by with_reducible first | exact KP.out _ | exact KB.out _))))
    refine wpQuiet_nil ?_
    intro _ hw'
    obtain ⟨wi, rfl⟩ := hw'
    have HWI := Lib.hid wi.g
    have GW := Lib.hid (GX.out.trans wi.g)
    replace a2 := keep_cell HWI.out a2
    replace a3 := keep_cell HWI.out a3
    replace a4 := keep_cell HWI.out a4
    replace a5 := keep_cell HWI.out a5
    replace a6 := keep_cell HWI.out a6
    replace a7 := keep_cell HWI.out a7
    replace a8 := keep_cell HWI.out a8
    clear f2 f3 f4 f5 f6 f7 f8
    go_wp2
    go_ret2
    exact ⟨rfl, GW.out⟩
  · rw [if_neg (by decide), if_neg (by decide), if_neg (by decide), if_pos rfl]
    have b5 : (⟨#[109, 97, 114, 107, 32]⟩ : ByteArray).size ≤ 5 := by decide
    have hml := (hm (.inr rfl)).1
    have y1 := cat_size b5 hsu
    have s1 := cat_run b5 hsu (by omega) (by omega)
    have y2 := cat_size y1 l1
    have s2 := cat_run y1 l1 (by omega) (by omega)
    have y3 := cat_size y2 hml
    have s3 := cat_run y2 hml (by omega) (by omega)
    clear kL hsl ht hm hsu hsp hsb l7 l8 l1 z1 z2 z3 b5 y1 y2 y3 hml
    by_cases he : emptyS m = true
    · rw [if_pos he]
      have he2 : m.toList.isEmpty = true := he
      clear he
      go_enter Tryz.func14, Tryz.ntmps14
      go_wp2_with fail
      refine (KF.out _ ((Grew.refl w).alloc _)).mono ?_
      rintro e w1 ⟨rfl, g1⟩
      have HG1 := Lib.hid g1
      have HW1 := Lib.hid (((Grew.refl w).alloc _).trans g1)
      obtain ⟨_, _, a2, a3, a4, a5, a6, a7, a8, _, _, _⟩ := HAll.out w1 g1
      clear g1
      dsimp only
      go_wp2_with fail
      refine (KU.out _).mono ?_
      rintro e w2 ⟨rfl, g2⟩
      have GX := Lib.hid (HW1.out.trans g2)
      replace a2 := keep_cell g2 a2
      replace a3 := keep_cell g2 a3
      replace a4 := keep_cell g2 a4
      replace a5 := keep_cell g2 a5
      replace a6 := keep_cell g2 a6
      replace a7 := keep_cell g2 a7
      replace a8 := keep_cell g2 a8
      have f2 := Gr.cell a2
      have f3 := Gr.cell a3
      have f4 := Gr.cell a4
      have f5 := Gr.cell a5
      have f6 := Gr.cell a6
      have f7 := Gr.cell a7
      have f8 := Gr.cell a8
      clear g2 HG1 HW1
      dsimp only
      go_wp2_with fail
      refine region_gr w2 (by kernel_rfl) (by kernel_rfl) (Grew.refl _) ?_
      repeat (first | go_big_quiet_step ((exact Gr.calls _ (by with_reducible first | exact KP.out _ | exact KB.out _))) | quiet_step ((exact Gr.calls _ (by with_reducible first | exact KP.out _ | exact KB.out _))))
      refine wpQuiet_nil ?_
      intro _ hw'
      obtain ⟨wi, rfl⟩ := hw'
      have HWI := Lib.hid wi.g
      have GW := Lib.hid (GX.out.trans wi.g)
      replace a2 := keep_cell HWI.out a2
      replace a3 := keep_cell HWI.out a3
      replace a4 := keep_cell HWI.out a4
      replace a5 := keep_cell HWI.out a5
      replace a6 := keep_cell HWI.out a6
      replace a7 := keep_cell HWI.out a7
      replace a8 := keep_cell HWI.out a8
      clear f2 f3 f4 f5 f6 f7 f8
      go_wp2
      go_ret2
      exact ⟨rfl, GW.out⟩
    · rw [if_neg he]
      have he2 : m.toList.isEmpty = false := by
        have h9 : ¬ (m.toList.isEmpty = true) := he
        simpa using h9
      clear he
      go_enter Tryz.func14, Tryz.ntmps14
      go_wp2_with fail
      refine (KF.out _ ((Grew.refl w).alloc _)).mono ?_
      rintro e w1 ⟨rfl, g1⟩
      have HG1 := Lib.hid g1
      have HW1 := Lib.hid (((Grew.refl w).alloc _).trans g1)
      obtain ⟨_, _, a2, a3, a4, a5, a6, a7, a8, _, _, _⟩ := HAll.out w1 g1
      clear g1
      dsimp only
      go_wp2_with fail
      refine (KU.out _).mono ?_
      rintro e w2 ⟨rfl, g2⟩
      have GX := Lib.hid (HW1.out.trans g2)
      replace a2 := keep_cell g2 a2
      replace a3 := keep_cell g2 a3
      replace a4 := keep_cell g2 a4
      replace a5 := keep_cell g2 a5
      replace a6 := keep_cell g2 a6
      replace a7 := keep_cell g2 a7
      replace a8 := keep_cell g2 a8
      have f2 := Gr.cell a2
      have f3 := Gr.cell a3
      have f4 := Gr.cell a4
      have f5 := Gr.cell a5
      have f6 := Gr.cell a6
      have f7 := Gr.cell a7
      have f8 := Gr.cell a8
      clear g2 HG1 HW1
      dsimp only
      go_wp2_with fail
      refine region_gr w2 (by kernel_rfl) (by kernel_rfl) (Grew.refl _) ?_
      repeat (first | go_big_quiet_step ((exact Gr.calls _ (by with_reducible first | exact KP.out _ | exact KB.out _))) | quiet_step ((exact Gr.calls _ (by with_reducible first | exact KP.out _ | exact KB.out _))))
      refine wpQuiet_nil ?_
      intro _ hw'
      obtain ⟨wi, rfl⟩ := hw'
      have HWI := Lib.hid wi.g
      have GW := Lib.hid (GX.out.trans wi.g)
      replace a2 := keep_cell HWI.out a2
      replace a3 := keep_cell HWI.out a3
      replace a4 := keep_cell HWI.out a4
      replace a5 := keep_cell HWI.out a5
      replace a6 := keep_cell HWI.out a6
      replace a7 := keep_cell HWI.out a7
      replace a8 := keep_cell HWI.out a8
      clear f2 f3 f4 f5 f6 f7 f8
      go_wp2
      go_ret2
      exact ⟨rfl, GW.out⟩
  · rw [if_neg (by decide), if_neg (by decide), if_neg (by decide), if_neg (by decide), if_pos rfl]
    have b5 : (⟨#[114, 101, 109, 111, 118, 101, 32]⟩ : ByteArray).size ≤ 7 := by decide
    have y1 := cat_size b5 hsu
    have s1 := cat_run b5 hsu (by omega) (by omega)
    clear kL hsl ht hm hsu hsp hsb l7 l8 l1 z1 z2 z3 b5 y1
    go_enter Tryz.func14, Tryz.ntmps14
    go_wp2_with fail
    refine (KF.out _ ((Grew.refl w).alloc _)).mono ?_
    rintro e w1 ⟨rfl, g1⟩
    have HG1 := Lib.hid g1
    have HW1 := Lib.hid (((Grew.refl w).alloc _).trans g1)
    obtain ⟨_, _, a2, a3, a4, a5, a6, a7, a8, _, _, _⟩ := HAll.out w1 g1
    clear g1
    dsimp only
    go_wp2_with fail
    refine (KU.out _).mono ?_
    rintro e w2 ⟨rfl, g2⟩
    have GX := Lib.hid (HW1.out.trans g2)
    replace a2 := keep_cell g2 a2
    replace a3 := keep_cell g2 a3
    replace a4 := keep_cell g2 a4
    replace a5 := keep_cell g2 a5
    replace a6 := keep_cell g2 a6
    replace a7 := keep_cell g2 a7
    replace a8 := keep_cell g2 a8
    have f2 := Gr.cell a2
    have f3 := Gr.cell a3
    have f4 := Gr.cell a4
    have f5 := Gr.cell a5
    have f6 := Gr.cell a6
    have f7 := Gr.cell a7
    have f8 := Gr.cell a8
    clear g2 HG1 HW1
    dsimp only
    go_wp2_with fail
    refine region_gr w2 (by kernel_rfl) (by kernel_rfl) (Grew.refl _) ?_
    repeat (first | go_big_quiet_step ((exact Gr.calls _ (by with_reducible first | exact KP.out _ | exact KB.out _))) | quiet_step ((exact Gr.calls _ (by with_reducible first | exact KP.out _ | exact KB.out _))))
    refine wpQuiet_nil ?_
    intro _ hw'
    obtain ⟨wi, rfl⟩ := hw'
    have HWI := Lib.hid wi.g
    have GW := Lib.hid (GX.out.trans wi.g)
    replace a2 := keep_cell HWI.out a2
    replace a3 := keep_cell HWI.out a3
    replace a4 := keep_cell HWI.out a4
    replace a5 := keep_cell HWI.out a5
    replace a6 := keep_cell HWI.out a6
    replace a7 := keep_cell HWI.out a7
    replace a8 := keep_cell HWI.out a8
    clear f2 f3 f4 f5 f6 f7 f8
    go_wp2
    go_ret2
    exact ⟨rfl, GW.out⟩
  · rw [if_neg (by decide), if_neg (by decide), if_neg (by decide), if_neg (by decide), if_neg (by decide)]
    have b5 : (⟨#[117, 110, 100, 111, 32]⟩ : ByteArray).size ≤ 5 := by decide
    have y1 := cat_size b5 hsu
    have s1 := cat_run b5 hsu (by omega) (by omega)
    clear kL hsl ht hm hsu hsp hsb l7 l8 l1 z1 z2 z3 b5 y1
    go_enter Tryz.func14, Tryz.ntmps14
    go_wp2_with fail
    refine (KF.out _ ((Grew.refl w).alloc _)).mono ?_
    rintro e w1 ⟨rfl, g1⟩
    have HG1 := Lib.hid g1
    have HW1 := Lib.hid (((Grew.refl w).alloc _).trans g1)
    obtain ⟨_, _, a2, a3, a4, a5, a6, a7, a8, _, _, _⟩ := HAll.out w1 g1
    clear g1
    dsimp only
    go_wp2_with fail
    refine (KU.out _).mono ?_
    rintro e w2 ⟨rfl, g2⟩
    have GX := Lib.hid (HW1.out.trans g2)
    replace a2 := keep_cell g2 a2
    replace a3 := keep_cell g2 a3
    replace a4 := keep_cell g2 a4
    replace a5 := keep_cell g2 a5
    replace a6 := keep_cell g2 a6
    replace a7 := keep_cell g2 a7
    replace a8 := keep_cell g2 a8
    have f2 := Gr.cell a2
    have f3 := Gr.cell a3
    have f4 := Gr.cell a4
    have f5 := Gr.cell a5
    have f6 := Gr.cell a6
    have f7 := Gr.cell a7
    have f8 := Gr.cell a8
    clear g2 HG1 HW1
    dsimp only
    go_wp2_with fail
    refine region_gr w2 (by kernel_rfl) (by kernel_rfl) (Grew.refl _) ?_
    repeat (first | go_big_quiet_step ((exact Gr.calls _ (by with_reducible first | exact KP.out _ | exact KB.out _))) | quiet_step ((exact Gr.calls _ (by with_reducible first | exact KP.out _ | exact KB.out _))))
    refine wpQuiet_nil ?_
    intro _ hw'
    obtain ⟨wi, rfl⟩ := hw'
    have HWI := Lib.hid wi.g
    have GW := Lib.hid (GX.out.trans wi.g)
    replace a2 := keep_cell HWI.out a2
    replace a3 := keep_cell HWI.out a3
    replace a4 := keep_cell HWI.out a4
    replace a5 := keep_cell HWI.out a5
    replace a6 := keep_cell HWI.out a6
    replace a7 := keep_cell HWI.out a7
    replace a8 := keep_cell HWI.out a8
    clear f2 f3 f4 f5 f6 f7 f8
    go_wp2
    go_ret2
    exact ⟨rfl, GW.out⟩
theorem ref21Text (o : Opn) (w : World) (hmk : o.mark.size ≤ 9223372036854775807) : Calls Tryz.prog 14 #[o.agg] w fun e w' => e = .returned (.tuple #[.string (textR o).1, .int .i64 (textR o).2]) ∧ Grew w w' := by
  unfold textR
  cases h : formedO o
  · exact ref21TextNo o w hmk h
  · exact ref21TextYes o w hmk h
end Go.Proofs.YtafncfomiolmgaaGreatDoor
