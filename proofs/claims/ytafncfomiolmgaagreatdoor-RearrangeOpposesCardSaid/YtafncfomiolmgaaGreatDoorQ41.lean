/- Lemmas on what the functions of the program and of the library compute: To2. The conditions stand at each. -/
import Derived.Test.YtafncfomiolmgaaGreatDoorQ23
import Derived.Test.YtafncfomiolmgaaGreatDoorQ26
import Derived.Test.YtafncfomiolmgaaGreatDoorQ3
namespace Go.Proofs.YtafncfomiolmgaaGreatDoor
open Go.RowKit
set_option maxRecDepth 100000 in
theorem c_22 {p:Prop} (h:p:=by
 clear he
 go_enter Tryz.func13,Tryz.ntmps13
 go_wp2_with fail
 refine(KF.out _ ((uX w).alloc _)).mono ?_
 rintro e w1 ⟨rfl,g1⟩
 have HG1:=uZ g1
 have HW1:=uZ (((uX w).alloc _).trans g1)
 obtain⟨_,_,a2,a3,a4,a5,a6,a7,a8,_,_,_⟩:=HAll.out w1 g1
 clear g1
 dsimp only
 go_wp2_with fail
 refine(KU.out _ HW1.out).mono ?_
 rintro e w2 ⟨rfl,g2⟩
 have GX:=uZ (HW1.out.trans g2)
 replace a2:=uQ g2 a2
 replace a3:=uQ g2 a3
 replace a4:=uQ g2 a4
 replace a5:=uQ g2 a5
 replace a6:=uQ g2 a6
 replace a7:=uQ g2 a7
 replace a8:=uQ g2 a8
 have f2:=Gr.cell a2
 have f3:=Gr.cell a3
 have f4:=Gr.cell a4
 have f5:=Gr.cell a5
 have f6:=Gr.cell a6
 have f7:=Gr.cell a7
 have f8:=Gr.cell a8
 clear g2 HG1 HW1
 dsimp only
 go_wp2_with fail
 refine region_gr w2 (by kernel_rfl) (by kernel_rfl) (uX _) ?_
 repeat (first|go_big_quiet_step ((exact Gr.calls _ b_7))|quiet_step ((exact Gr.calls _ b_7)))
 refine wpQuiet_nil ?_
 intro _ hw'
 obtain⟨wi,rfl⟩:=hw'
 have HWI:=uZ wi.g
 have GW:=uZ (GX.out.trans wi.g)
 replace a2:=uQ HWI.out a2
 replace a3:=uQ HWI.out a3
 replace a4:=uQ HWI.out a4
 replace a5:=uQ HWI.out a5
 replace a6:=uQ HWI.out a6
 replace a7:=uQ HWI.out a7
 replace a8:=uQ HWI.out a8
 clear f2 f3 f4 f5 f6 f7 f8
 generalize wi.W=w3 at HWI GW a2 a3 a4 a5 a6 a7 a8 ⊢
 clear wi GX HWI
 have GX:=uZ GW.out
 clear GW
 have f6:=Gr.cell a6
 have f7:=Gr.cell a7
 have f8:=Gr.cell a8
 go_wp2_with fail
 refine region_gr w3 (by kernel_rfl) (by kernel_rfl) (uX _) ?_
 repeat (first|go_big_quiet_step ((exact Gr.calls _ (by with_reducible exact KL.out _ (GX.out.trans (Gr.g _)))))|quiet_step ((exact Gr.calls _ (by with_reducible exact KL.out _ (GX.out.trans (Gr.g _))))))
 refine wpQuiet_nil ?_
 intro _ hw'
 obtain⟨wi,rfl⟩:=hw'
 have HWI:=uZ wi.g
 have GW:=uZ (GX.out.trans wi.g)
 replace a6:=uQ HWI.out a6
 replace a7:=uQ HWI.out a7
 replace a8:=uQ HWI.out a8
 clear f6 f7 f8
 go_wp2
 go_ret2
 exact⟨rfl,GW.out⟩):p:=h
set_option maxRecDepth 100000 in
theorem c_25 {p:Prop} (h:p:=by
 have y1:=cat_size b5 hsu
 have s1:=cat_run b5 hsu b_37 b_37
 clear kL hsl ht hm hsu hsp hsb l7 l8 l1 z1 z2 z3 b5 y1 kT
 go_enter Tryz.func13,Tryz.ntmps13
 go_wp2_with fail
 refine(KF.out _ ((uX w).alloc _)).mono ?_
 rintro e w1 ⟨rfl,g1⟩
 have HG1:=uZ g1
 have HW1:=uZ (((uX w).alloc _).trans g1)
 obtain⟨_,_,a2,a3,a4,a5,a6,a7,a8,_,_,_⟩:=HAll.out w1 g1
 clear g1
 dsimp only
 go_wp2_with fail
 refine(KU.out _ HW1.out).mono ?_
 rintro e w2 ⟨rfl,g2⟩
 have GX:=uZ (HW1.out.trans g2)
 replace a2:=uQ g2 a2
 replace a3:=uQ g2 a3
 replace a4:=uQ g2 a4
 replace a5:=uQ g2 a5
 replace a6:=uQ g2 a6
 replace a7:=uQ g2 a7
 replace a8:=uQ g2 a8
 have f2:=Gr.cell a2
 have f3:=Gr.cell a3
 have f4:=Gr.cell a4
 have f5:=Gr.cell a5
 have f6:=Gr.cell a6
 have f7:=Gr.cell a7
 have f8:=Gr.cell a8
 clear g2 HG1 HW1
 dsimp only
 go_wp2_with fail
 refine region_gr w2 (by kernel_rfl) (by kernel_rfl) (uX _) ?_
 repeat (first|go_big_quiet_step ((exact Gr.calls _ b_7))|quiet_step ((exact Gr.calls _ b_7)))
 refine wpQuiet_nil ?_
 intro _ hw'
 obtain⟨wi,rfl⟩:=hw'
 have HWI:=uZ wi.g
 have GW:=uZ (GX.out.trans wi.g)
 replace a2:=uQ HWI.out a2
 replace a3:=uQ HWI.out a3
 replace a4:=uQ HWI.out a4
 replace a5:=uQ HWI.out a5
 replace a6:=uQ HWI.out a6
 replace a7:=uQ HWI.out a7
 replace a8:=uQ HWI.out a8
 clear f2 f3 f4 f5 f6 f7 f8
 go_wp2
 go_ret2
 exact⟨rfl,GW.out⟩):p:=h
set_option maxRecDepth 100000 in
theorem c_29 {p:Prop} (h:p:=by
 go_enter Tryz.func13,Tryz.ntmps13
 go_wp2_with fail
 refine(KF.out _ ((uX w).alloc _)).mono ?_
 rintro e w1 ⟨rfl,g1⟩
 have HG1:=uZ g1
 have HW1:=uZ (((uX w).alloc _).trans g1)
 obtain⟨_,_,a2,a3,a4,a5,a6,a7,a8,_,_,_⟩:=HAll.out w1 g1
 clear g1
 dsimp only
 go_wp2_with fail
 refine(KU.out _ HW1.out).mono ?_
 rintro e w2 ⟨rfl,g2⟩
 have GX:=uZ (HW1.out.trans g2)
 replace a2:=uQ g2 a2
 replace a3:=uQ g2 a3
 replace a4:=uQ g2 a4
 replace a5:=uQ g2 a5
 replace a6:=uQ g2 a6
 replace a7:=uQ g2 a7
 replace a8:=uQ g2 a8
 have f2:=Gr.cell a2
 have f3:=Gr.cell a3
 have f4:=Gr.cell a4
 have f5:=Gr.cell a5
 have f6:=Gr.cell a6
 have f7:=Gr.cell a7
 have f8:=Gr.cell a8
 clear g2 HG1 HW1
 dsimp only
 go_wp2_with fail
 refine region_gr w2 (by kernel_rfl) (by kernel_rfl) (uX _) ?_
 repeat (first|go_big_quiet_step ((exact Gr.calls _ b_7))|quiet_step ((exact Gr.calls _ b_7)))
 refine wpQuiet_nil ?_
 intro _ hw'
 obtain⟨wi,rfl⟩:=hw'
 have HWI:=uZ wi.g
 have GW:=uZ (GX.out.trans wi.g)
 replace a2:=uQ HWI.out a2
 replace a3:=uQ HWI.out a3
 replace a4:=uQ HWI.out a4
 replace a5:=uQ HWI.out a5
 replace a6:=uQ HWI.out a6
 replace a7:=uQ HWI.out a7
 replace a8:=uQ HWI.out a8
 clear f2 f3 f4 f5 f6 f7 f8
 go_wp2
 go_ret2
 exact⟨rfl,GW.out⟩):p:=h
set_option maxHeartbeats 2000000 in
theorem rText21No (o:Opn) (w:World) (hE:Env w) (h:formedO o=false):Calls Tryz.prog 13 #[o.agg] w fun e w'=>e=.returned (.tuple #[.string ⟨#[]⟩,.int .i64 1])∧Grew w w':=by
 have kF:=fun W (hW:Grew w W)=>fFormed o W (hE.mono hW)
 rw[h] at kF
 unfold Opn.agg at kF ⊢
 have K:=uZ kF
 clear kF h hE
 go_enter Tryz.func13,Tryz.ntmps13
 go_wp2_with fail
 refine(K.out _ ((uX w).alloc _)).mono ?_
 rintro e w1 ⟨rfl,g1⟩
 have HG1:=uZ (((uX w).alloc _).trans g1)
 clear g1
 dsimp only
 go_wp2
 go_ret2
 exact⟨rfl,HG1.out⟩
set_option maxHeartbeats 16000000 in
set_option maxRecDepth 100000 in
theorem rText21Yes (o:Opn) (w:World) (hE:Env w) (h:formedO o=true):Calls Tryz.prog 13 #[o.agg] w fun e w'=>e=.returned (.tuple #[.string (textOp o),.int .i64 0])∧Grew w w':=by
 have kF:=fun W (hW:Grew w W)=>fFormed o W (hE.mono hW)
 rw[h] at kF
 obtain⟨hu,hp,hb,hl,ht,hm,hk⟩:=formed_facts h
 have kT:(o.mark.size≤64∧allIn 33 126 o.mark.data.toList=true)→∀ W:World,Calls Tryz.prog 40 #[.string ((text4 o++⟨#[32]⟩)++o.mark),.string ⟨#[32]⟩] W fun e w'=>e=.returned (.string (if emptyS o.mark=true then text4 o else(text4 o++⟨#[32]⟩)++o.mark))∧w'=W:=by
  intro hm W
  have hs:((text4 o++⟨#[32]⟩)++o.mark).size≤9223372036854775807:=by
   have h1:=itoaB_size o.unit b_37 b_37
   unfold text4
   rw[ByteArray.size_append,ByteArray.size_append,ByteArray.size_append,show(⟨#[109,97,114,107,32]⟩:ByteArray).size=5 from rfl,show(⟨#[32]⟩:ByteArray).size=1 from rfl]
   omega
  have:=Tryz.strings_TrimSuffix ((text4 o++⟨#[32]⟩)++o.mark) ⟨#[32]⟩ W hs
  rw[trim_mark o hm.2] at this
  exact this
 have kU:∀ W,Grew w W→Calls Tryz.prog 39 #[.int .i64 o.unit] W fun e w'=>e=.returned (.string (itoaB o.unit))∧Grew W w':=fun W (hW:Grew w W)=>itoa_any o.unit b_37 b_37 W (hE.mono hW)
 have kP:∀ W,Grew w W→Calls Tryz.prog 39 #[.int .i64 o.parent] W fun e w'=>e=.returned (.string (itoaB o.parent))∧Grew W w':=fun W (hW:Grew w W)=>itoa_any o.parent b_37 b_37 W (hE.mono hW)
 have kB:∀ W,Grew w W→Calls Tryz.prog 39 #[.int .i64 o.before] W fun e w'=>e=.returned (.string (itoaB o.before))∧Grew W w':=fun W (hW:Grew w W)=>itoa_any o.before b_37 b_37 W (hE.mono hW)
 have kL:o.kind=1→∀ W,Grew w W→Calls Tryz.prog 39 #[.int .i64 o.level] W fun e w'=>e=.returned (.string (itoaB o.level))∧Grew W w':=fun hk W (hW:Grew w W)=>itoa_any o.level (by have:=hl hk;omega) (by have:=hl hk;omega) W (hE.mono hW)
 have hsl:=fun(hk:o.kind=1)=>itoaB_size o.level (by have:=hl hk;omega) (by have:=hl hk;omega)
 have hsu:=itoaB_size o.unit b_37 b_37
 have hsp:=itoaB_size o.parent b_37 b_37
 have hsb:=itoaB_size o.before b_37 b_37
 have hall:=fun W (g:Grew (w.alloc (.cells o.cells.toArray 25)) W)=>opn_all o g
 unfold textOp text1 text4 placeB
 unfold text4 at kT
 obtain⟨i,d,k,u,p,b,l,tt,m,x9,x10,x11⟩:=o
 unfold Opn.agg at kF ⊢
 unfold Opn.cells at hall
 dsimp only at hu hp hb hl ht hm hk kF kU kP kB kL hsl hsu hsp hsb hall kT ⊢
 generalize itoaB u=su at kU hsu kT ⊢
 generalize itoaB p=sp at kP hsp ⊢
 generalize itoaB b=sb at kB hsb ⊢
 generalize itoaB l=sl at kL hsl ⊢
 clear hu hp hb hl h
 have l7:(⟨#[32,98,101,108,111,119,32]⟩:ByteArray).size≤7:=by decide
 have l8:(⟨#[32,98,101,102,111,114,101,32]⟩:ByteArray).size≤8:=by decide
 have l1:(⟨#[32]⟩:ByteArray).size≤1:=by decide
 have z1:=cat_size l7 hsp
 have z2:=cat_size z1 l8
 have z3:=cat_size z2 hsb
 have r1:=cat_run l7 hsp b_37 b_37
 have r2:=cat_run z1 l8 b_37 b_37
 have r3:=cat_run z2 hsb b_37 b_37
 have KF:=uZ kF
 have KU:=uZ kU
 have KP:=uZ kP
 have KB:=uZ kB
 have HAll:=uZ hall
 clear kF kU kP kB hall
 rcases hk with rfl|rfl|rfl|rfl|rfl|rfl
 ·have KL:=uZ (kL rfl)
  have hsl1:=hsl rfl
  have htl:=ht (.inl rfl)
  have hml:=(hm (.inl rfl)).1
  have b7:(⟨#[99,114,101,97,116,101,32]⟩:ByteArray).size≤7:=by decide
  have v7:(⟨#[32,108,101,118,101,108,32]⟩:ByteArray).size≤7:=by decide
  have p2:(⟨#[32,91]⟩:ByteArray).size≤2:=by decide
  have p1:(⟨#[93]⟩:ByteArray).size≤1:=by decide
  have y1:=cat_size b7 hsu
  have s1:=cat_run b7 hsu b_37 b_37
  have y2:=cat_size y1 v7
  have s2:=cat_run y1 v7 b_37 b_37
  have y3:=cat_size y2 hsl1
  have s3:=cat_run y2 hsl1 b_37 b_37
  have y4:=cat_size y3 z3
  have s4:=cat_run y3 z3 b_37 b_37
  have y5:=cat_size y4 l1
  have s5:=cat_run y4 l1 b_37 b_37
  have y6:=cat_size y5 htl
  have s6:=cat_run y5 htl b_37 b_37
  have y7:=cat_size p2 hml
  have s7:=cat_run p2 hml b_37 b_37
  have y8:=cat_size y7 p1
  have s8:=cat_run y7 p1 b_37 b_37
  have s9:=cat_run y6 y8 b_37 b_37
  clear kL hsl ht hm hsu hsp hsb hsl1 htl hml b7 v7 p2 p1 l7 l8 l1 z1 z2 z3 y1 y2 y3 y4 y5 y6 y7 y8 kT
  rw[if_pos rfl]
  by_cases he:emptyS m=true
  ·rw[if_pos he]
   have he2:m.toList.isEmpty=true:=he
   exact c_22
  ·rw[if_neg he]
   have he2:m.toList.isEmpty=false:=by
    have h9:¬ (m.toList.isEmpty=true):=he
    simpa using h9
   exact c_22
 ·rw[if_neg b_36,if_pos rfl]
  have b5:(⟨#[109,111,118,101,32]⟩:ByteArray).size≤5:=by decide
  have y1:=cat_size b5 hsu
  have s1:=cat_run b5 hsu b_37 b_37
  have y2:=cat_size y1 z3
  have s2:=cat_run y1 z3 b_37 b_37
  clear kL hsl ht hm hsu hsp hsb l7 l8 l1 z1 z2 z3 b5 y1 y2 kT
  exact c_29
 ·rw[if_neg b_36,if_neg b_36,if_pos rfl]
  have b5:(⟨#[114,101,110,97,109,101,32]⟩:ByteArray).size≤7:=by decide
  have htl:=ht (.inr rfl)
  have y1:=cat_size b5 hsu
  have s1:=cat_run b5 hsu b_37 b_37
  have y2:=cat_size y1 l1
  have s2:=cat_run y1 l1 b_37 b_37
  have y3:=cat_size y2 htl
  have s3:=cat_run y2 htl b_37 b_37
  clear kL hsl ht hm hsu hsp hsb l7 l8 l1 z1 z2 z3 b5 y1 y2 y3 kT htl
  exact c_29
 ·rw[if_neg b_36,if_neg b_36,if_neg b_36,if_pos rfl]
  have b5:(⟨#[109,97,114,107,32]⟩:ByteArray).size≤5:=by decide
  have KT:=uZ (kT (hm (.inr rfl)))
  have hml:=(hm (.inr rfl)).1
  generalize (if emptyS m=true then(⟨#[109,97,114,107,32]⟩++su:ByteArray) else(⟨#[109,97,114,107,32]⟩++su++⟨#[32]⟩)++m)=RES at KT ⊢
  have y1:=cat_size b5 hsu
  have s1:=cat_run b5 hsu b_37 b_37
  have y2:=cat_size y1 l1
  have s2:=cat_run y1 l1 b_37 b_37
  have y3:=cat_size y2 hml
  have s3:=cat_run y2 hml b_37 b_37
  clear kL hsl ht hm hsu hsp hsb l7 l8 l1 z1 z2 z3 b5 y1 y2 y3 kT hml
  go_enter Tryz.func13,Tryz.ntmps13
  go_wp2_with fail
  refine(KF.out _ ((uX w).alloc _)).mono ?_
  rintro e w1 ⟨rfl,g1⟩
  have HG1:=uZ g1
  have HW1:=uZ (((uX w).alloc _).trans g1)
  obtain⟨_,_,a2,a3,a4,a5,a6,a7,a8,_,_,_⟩:=HAll.out w1 g1
  clear g1
  dsimp only
  go_wp2_with fail
  refine(KU.out _ HW1.out).mono ?_
  rintro e w2 ⟨rfl,g2⟩
  have GX:=uZ (HW1.out.trans g2)
  replace a2:=uQ g2 a2
  replace a3:=uQ g2 a3
  replace a4:=uQ g2 a4
  replace a5:=uQ g2 a5
  replace a6:=uQ g2 a6
  replace a7:=uQ g2 a7
  replace a8:=uQ g2 a8
  have f2:=Gr.cell a2
  have f3:=Gr.cell a3
  have f4:=Gr.cell a4
  have f5:=Gr.cell a5
  have f6:=Gr.cell a6
  have f7:=Gr.cell a7
  have f8:=Gr.cell a8
  clear g2 HG1 HW1
  dsimp only
  go_wp2_with fail
  refine region_gr w2 (by kernel_rfl) (by kernel_rfl) (uX _) ?_
  repeat (first|go_big_quiet_step ((exact Gr.calls _ b_7))|quiet_step ((exact Gr.calls _ b_7)))
  refine wpQuiet_nil ?_
  intro _ hw'
  obtain⟨wi,rfl⟩:=hw'
  have HWI:=uZ wi.g
  have GW:=uZ (GX.out.trans wi.g)
  replace a2:=uQ HWI.out a2
  replace a3:=uQ HWI.out a3
  replace a4:=uQ HWI.out a4
  replace a5:=uQ HWI.out a5
  replace a6:=uQ HWI.out a6
  replace a7:=uQ HWI.out a7
  replace a8:=uQ HWI.out a8
  clear f2 f3 f4 f5 f6 f7 f8
  go_wp2_with (first|(go_at_call 40;refine(KT.out _).mono ?_;rintro e wt ⟨rfl,rfl⟩))
  go_ret2
  exact⟨rfl,GW.out⟩
 ·rw[if_neg b_36,if_neg b_36,if_neg b_36,if_neg b_36,if_pos rfl]
  have b5:(⟨#[114,101,109,111,118,101,32]⟩:ByteArray).size≤7:=by decide
  exact c_25
 ·rw[if_neg b_36,if_neg b_36,if_neg b_36,if_neg b_36,if_neg b_36]
  have b5:(⟨#[117,110,100,111,32]⟩:ByteArray).size≤5:=by decide
  exact c_25
theorem rText21 (o:Opn) (w:World) (hE:Env w):Calls Tryz.prog 13 #[o.agg] w fun e w'=>e=.returned (.tuple #[.string (textR o).1,.int .i64 (textR o).2])∧Grew w w':=by
 unfold textR
 cases h:formedO o
 ·exact rText21No o w hE h
 ·exact rText21Yes o w hE h
end Go.Proofs.YtafncfomiolmgaaGreatDoor