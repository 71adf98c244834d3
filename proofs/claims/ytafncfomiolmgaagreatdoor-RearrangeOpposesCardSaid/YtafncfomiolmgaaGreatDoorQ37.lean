/- Lemmas on what the functions of the program and of the library compute: Rg1, PlainRe, Rg0, Held. The conditions stand at each. -/
import Derived.Test.YtafncfomiolmgaaGreatDoorQ36
import Derived.Deep.CutRange
import Derived.Deep.RegionHeld3
import Derived.Test.YtafncfomiolmgaaGreatDoorQ7
import Derived.Test.YtafncfomiolmgaaGreatDoorQ1
import Derived.OrdersHeld
import Derived.Deep.RegionHeld
namespace Go.Proofs.YtafncfomiolmgaaGreatDoor
open Go.RowKit
set_option maxRecDepth 100000 in
theorem c_35 {p:Prop} (h:p:=by
 go_wp2_with fail
 refine(KM.out _ HG3.out).mono ?_
 rintro e w5 ⟨rfl,g5⟩
 have G5:=uZ (G3.out.trans g5)
 have HG5:=uZ (GA.out.trans G5.out)
 replace HV3:=uZ (SlI.mono HV3.out g5)
 clear r0 b0 a0 a1 a2 a3 a4 a5 a6 a7 a8 a9 a10 a11 q0 q1 z0 z1 HR g5 KM G3 HG3
 obtain⟨⟨r0,b0,a0,a1,a2,a3,a4,a5,a6,a7,a8,a9,a10,a11⟩,hR⟩:=HB.out _ G5.out
 obtain⟨q0,q1,z0,z1⟩:=res4 hR
 have HR:=uZ hR
 clear hR
 dsimp only
 go_wp2_with fail
 obtain⟨p0,p1⟩:=res_cells (v0:=(.slice Ar t.roots.length cr)) (v1:=(.slice Ab t.brs.length cb)) q0 q1
 refine bodyPost_ret (v:=.tuple #[.agg #[.slice Ar t.roots.length cr,.slice Ab t.brs.length cb],.int .i64 19]) b_27 rfl ?_
 exact laidTr HR.out b_37 HG5.out (HTT.out _ HG5.out)):p:=h
set_option maxRecDepth 100000 in
theorem c_36 {p:Prop} (h:p:=by
 go_wp2_with fail
 refine(KM.out _ HG3.out).mono ?_
 rintro e w5 ⟨rfl,g5⟩
 have G5:=uZ (G3.out.trans g5)
 have HG5:=uZ (GA.out.trans G5.out)
 replace HV3:=uZ (SlI.mono HV3.out g5)
 clear r0 b0 a0 a1 a2 a3 a4 a5 a6 a7 a8 a9 a10 a11 q0 q1 z0 z1 HR g5 KM G3 HG3
 obtain⟨⟨r0,b0,a0,a1,a2,a3,a4,a5,a6,a7,a8,a9,a10,a11⟩,hR⟩:=HB.out _ G5.out
 obtain⟨q0,q1,z0,z1⟩:=res4 hR
 have HR:=uZ hR
 clear hR
 dsimp only
 go_wp2_with fail
 obtain⟨p0,p1⟩:=res_cells (v0:=(.slice Ar t.roots.length cr)) (v1:=(.slice Ab t.brs.length cb)) q0 q1
 refine bodyPost_ret (v:=.tuple #[.agg #[.slice Ar t.roots.length cr,.slice Ab t.brs.length cb],.int .i64 8]) b_27 rfl ?_
 exact laidTr HR.out b_37 HG5.out (HTT.out _ HG5.out)):p:=h
set_option maxHeartbeats 16000000 in
set_option maxRecDepth 100000 in
theorem refCreateTwice (t:Tr) (o:Opn) (rv bv:Value) (w:World) (hr:SlI w rv t.roots) (hv:SlBr w bv t.brs) {fb:Br} (ho:brFind t.brs o.unit=some fb):Calls Tryz.prog 56 #[.agg #[rv,bv],o.agg] w (RetTr (t,6) w):=by
 have HTT:=uZ (fun W (hW:Grew w W)=>(⟨hr.mono hW,hv.mono hW⟩:TrOk W rv bv t))
 have kF:=fun W (hW:Grew w W)=>refFind19 t.brs o.unit rv bv W (hv.mono hW)
 rw[ho] at kF
 unfold TFindEnd at kF
 dsimp only [Option.getD_some,Option.isSome_some] at kF
 have HBX:=uZ (ref_box w o)
 obtain⟨Ar,cr,rfl,-⟩:=SlI.open_ hr
 obtain⟨Ab,cb,rfl,-⟩:=SlBr.open_ hv
 clear hr hv
 obtain⟨i,d,k,u,p,b,l,tt,m,x9,x10,x11⟩:=o
 obtain⟨fi,fp,fl,ft,fm,fk⟩:=fb
 unfold Opn.agg
 unfold Opn.cells at HBX
 dsimp only at HBX kF ⊢
 have KF:=uZ kF
 clear kF
 have GA:=uZ ((((uX w).alloc (.cells [.slice Ar t.roots.length cr,.slice Ab t.brs.length cb].toArray 35)).alloc (.cells [.int .i64 i,.int .i64 d,.int .i64 k,.int .i64 u,.int .i64 p,.int .i64 b,.int .i64 l,.string tt,.string m,.int .i64 x9,.int .i64 x10,.int .i64 x11].toArray 25)).alloc (.cells [.slice none 0 0,.slice none 0 0].toArray 35))
 have HB:=uZ (fun W g=>HBX.out (.slice Ar t.roots.length cr) (.slice Ab t.brs.length cb) W g)
 clear HBX
 go_enter Tryz.func56,Tryz.ntmps56
 go_wp2_with fail
 generalize ((w.alloc (.cells [.slice Ar t.roots.length cr,.slice Ab t.brs.length cb].toArray 35)).alloc (.cells [.int .i64 i,.int .i64 d,.int .i64 k,.int .i64 u,.int .i64 p,.int .i64 b,.int .i64 l,.string tt,.string m,.int .i64 x9,.int .i64 x10,.int .i64 x11].toArray 25)).alloc (.cells [.slice none 0 0,.slice none 0 0].toArray 35)=WA at GA HB ⊢
 refine(KF.out _ GA.out).mono ?_
 rintro e w1 ⟨rfl,g1⟩
 have HG1:=uZ (GA.out.trans (g1.alloc (.cells #[.int .i64 fi,.int .i64 fp,.int .i64 fl,.string ft,.string fm] 51)))
 obtain⟨⟨r0,b0,a0,a1,a2,a3,a4,a5,a6,a7,a8,a9,a10,a11⟩,hR⟩:=HB.out _ (g1.alloc (.cells #[.int .i64 fi,.int .i64 fp,.int .i64 fl,.string ft,.string fm] 51))
 obtain⟨q0,q1,z0,z1⟩:=res4 hR
 have HR:=uZ hR
 clear hR
 clear g1
 dsimp only
 go_wp2_with fail
 obtain⟨p0,p1⟩:=res_cells (v0:=(.slice Ar t.roots.length cr)) (v1:=(.slice Ab t.brs.length cb)) q0 q1
 refine bodyPost_ret (v:=.tuple #[.agg #[.slice Ar t.roots.length cr,.slice Ab t.brs.length cb],.int .i64 6]) b_27 rfl ?_
 exact laidTr HR.out b_37 HG1.out (HTT.out _ HG1.out)
set_option maxHeartbeats 16000000 in
set_option maxRecDepth 100000 in
theorem refCreateLev (t:Tr) (o:Opn) (rv bv:Value) (w:World) (hr:SlI w rv t.roots) (hv:SlBr w bv t.brs) (ho:brFind t.brs o.unit=none) {n:Int} (hl:levR t o.parent o.level=n) (hn0:n≠0):Calls Tryz.prog 56 #[.agg #[rv,bv],o.agg] w (RetTr (t,n) w):=by
 have HTT:=uZ (fun W (hW:Grew w W)=>(⟨hr.mono hW,hv.mono hW⟩:TrOk W rv bv t))
 have kF:=fun W (hW:Grew w W)=>refFind19 t.brs o.unit rv bv W (hv.mono hW)
 rw[ho] at kF
 unfold TFindEnd at kF
 dsimp only [Option.getD_none,Option.isSome_none,br0] at kF
 have kL:=fun W (hW:Grew w W)=>lev21 t o.parent o.level rv bv W (hr.mono hW) (hv.mono hW)
 rw[hl] at kL
 have HBX:=uZ (ref_box w o)
 obtain⟨Ar,cr,rfl,-⟩:=SlI.open_ hr
 obtain⟨Ab,cb,rfl,-⟩:=SlBr.open_ hv
 clear hr hv
 obtain⟨i,d,k,u,p,b,l,tt,m,x9,x10,x11⟩:=o
 unfold Opn.agg
 unfold Opn.cells at HBX
 dsimp only at HBX kF kL ⊢
 have KF:=uZ kF
 have KL:=uZ kL
 clear kF kL
 have GA:=uZ ((((uX w).alloc (.cells [.slice Ar t.roots.length cr,.slice Ab t.brs.length cb].toArray 35)).alloc (.cells [.int .i64 i,.int .i64 d,.int .i64 k,.int .i64 u,.int .i64 p,.int .i64 b,.int .i64 l,.string tt,.string m,.int .i64 x9,.int .i64 x10,.int .i64 x11].toArray 25)).alloc (.cells [.slice none 0 0,.slice none 0 0].toArray 35))
 have HB:=uZ (fun W g=>HBX.out (.slice Ar t.roots.length cr) (.slice Ab t.brs.length cb) W g)
 clear HBX
 go_enter Tryz.func56,Tryz.ntmps56
 go_wp2_with fail
 generalize ((w.alloc (.cells [.slice Ar t.roots.length cr,.slice Ab t.brs.length cb].toArray 35)).alloc (.cells [.int .i64 i,.int .i64 d,.int .i64 k,.int .i64 u,.int .i64 p,.int .i64 b,.int .i64 l,.string tt,.string m,.int .i64 x9,.int .i64 x10,.int .i64 x11].toArray 25)).alloc (.cells [.slice none 0 0,.slice none 0 0].toArray 35)=WA at GA HB ⊢
 have hnb:(n != 0)=true:=by simpa using hn0
 refine(KF.out _ GA.out).mono ?_
 rintro e w1 ⟨rfl,g1⟩
 have G1:=uZ (g1.alloc (.cells #[.int .i64 0,.int .i64 0,.int .i64 0,.string ⟨#[]⟩,.string ⟨#[]⟩] 51))
 have HG1:=uZ (GA.out.trans G1.out)
 obtain⟨⟨r0,b0,a0,a1,a2,a3,a4,a5,a6,a7,a8,a9,a10,a11⟩,hR⟩:=HB.out _ G1.out
 obtain⟨q0,q1,z0,z1⟩:=res4 hR
 have HR:=uZ hR
 clear hR
 clear g1
 dsimp only
 go_wp2_with fail
 generalize w1.alloc (.cells #[.int .i64 0,.int .i64 0,.int .i64 0,.string ⟨#[]⟩,.string ⟨#[]⟩] 51)=wY at G1 HG1 r0 b0 a0 a1 a2 a3 a4 a5 a6 a7 a8 a9 a10 a11 q0 q1 z0 z1 HR ⊢
 refine(KL.out _ HG1.out).mono ?_
 rintro e w2 ⟨rfl,g2⟩
 have G2:=uZ (G1.out.trans g2)
 have HG2:=uZ (GA.out.trans G2.out)
 clear r0 b0 a0 a1 a2 a3 a4 a5 a6 a7 a8 a9 a10 a11 q0 q1 z0 z1 HR g2 KF KL G1 HG1
 obtain⟨⟨r0,b0,a0,a1,a2,a3,a4,a5,a6,a7,a8,a9,a10,a11⟩,hR⟩:=HB.out _ G2.out
 obtain⟨q0,q1,z0,z1⟩:=res4 hR
 have HR:=uZ hR
 clear hR
 dsimp only
 go_wp2_with fail
 obtain⟨p0,p1⟩:=res_cells (v0:=(.slice Ar t.roots.length cr)) (v1:=(.slice Ab t.brs.length cb)) q0 q1
 refine bodyPost_ret (v:=.tuple #[.agg #[.slice Ar t.roots.length cr,.slice Ab t.brs.length cb],.int .i64 n]) b_27 rfl ?_
 exact laidTr HR.out b_37 HG2.out (HTT.out _ HG2.out)
set_option maxHeartbeats 16000000 in
set_option maxRecDepth 100000 in
theorem refCreateBef (t:Tr) (o:Opn) (rv bv:Value) (w:World) (hr:SlI w rv t.roots) (hv:SlBr w bv t.brs) (hf:FewBr t.brs) (hrl:t.roots.length≤1000000) (ho:brFind t.brs o.unit=none) (hl:levR t o.parent o.level=0) (hbz:o.before≠0) (hnb:o.before∉childs t o.parent):Calls Tryz.prog 56 #[.agg #[rv,bv],o.agg] w (RetTr (t,7) w):=by
 have HTT:=uZ (fun W (hW:Grew w W)=>(⟨hr.mono hW,hv.mono hW⟩:TrOk W rv bv t))
 have kF:=fun W (hW:Grew w W)=>refFind19 t.brs o.unit rv bv W (hv.mono hW)
 rw[ho] at kF
 unfold TFindEnd at kF
 dsimp only [Option.getD_none,Option.isSome_none,br0] at kF
 have kL:=fun W (hW:Grew w W)=>lev21 t o.parent o.level rv bv W (hr.mono hW) (hv.mono hW)
 rw[hl] at kL
 have kC:=fun W (hW:Grew w W)=>refChildren t.roots t.brs o.parent rv bv W (hr.mono hW) (hv.mono hW) hf hrl
 rw[show childs ⟨t.roots,t.brs⟩ o.parent=childs t o.parent from rfl] at kC
 have kH:=fun v W h=>ref21Has (childs t o.parent) o.before v W h
 rw[decide_eq_false hnb] at kH
 clear hnb
 generalize childs t o.parent=KS at *
 have HBX:=uZ (ref_box w o)
 obtain⟨Ar,cr,rfl,-⟩:=SlI.open_ hr
 obtain⟨Ab,cb,rfl,-⟩:=SlBr.open_ hv
 clear hr hv hf hrl
 obtain⟨i,d,k,u,p,b,l,tt,m,x9,x10,x11⟩:=o
 unfold Opn.agg
 unfold Opn.cells at HBX
 dsimp only at HBX kF kL kC kH hbz ⊢
 have KF:=uZ kF
 have KL:=uZ kL
 have KC:=uZ kC
 have KH:=uZ kH
 have Hbz:=uZ hbz
 clear kF kL kC kH hbz
 have GA:=uZ ((((uX w).alloc (.cells [.slice Ar t.roots.length cr,.slice Ab t.brs.length cb].toArray 35)).alloc (.cells [.int .i64 i,.int .i64 d,.int .i64 k,.int .i64 u,.int .i64 p,.int .i64 b,.int .i64 l,.string tt,.string m,.int .i64 x9,.int .i64 x10,.int .i64 x11].toArray 25)).alloc (.cells [.slice none 0 0,.slice none 0 0].toArray 35))
 have HB:=uZ (fun W g=>HBX.out (.slice Ar t.roots.length cr) (.slice Ab t.brs.length cb) W g)
 clear HBX
 go_enter Tryz.func56,Tryz.ntmps56
 go_wp2_with fail
 generalize ((w.alloc (.cells [.slice Ar t.roots.length cr,.slice Ab t.brs.length cb].toArray 35)).alloc (.cells [.int .i64 i,.int .i64 d,.int .i64 k,.int .i64 u,.int .i64 p,.int .i64 b,.int .i64 l,.string tt,.string m,.int .i64 x9,.int .i64 x10,.int .i64 x11].toArray 25)).alloc (.cells [.slice none 0 0,.slice none 0 0].toArray 35)=WA at GA HB ⊢
 refine(KF.out _ GA.out).mono ?_
 rintro e w1 ⟨rfl,g1⟩
 have G1:=uZ (g1.alloc (.cells #[.int .i64 0,.int .i64 0,.int .i64 0,.string ⟨#[]⟩,.string ⟨#[]⟩] 51))
 have HG1:=uZ (GA.out.trans G1.out)
 obtain⟨⟨r0,b0,a0,a1,a2,a3,a4,a5,a6,a7,a8,a9,a10,a11⟩,hR⟩:=HB.out _ G1.out
 obtain⟨q0,q1,z0,z1⟩:=res4 hR
 have HR:=uZ hR
 clear hR
 clear g1
 dsimp only
 go_wp2_with fail
 generalize w1.alloc (.cells #[.int .i64 0,.int .i64 0,.int .i64 0,.string ⟨#[]⟩,.string ⟨#[]⟩] 51)=wY at G1 HG1 r0 b0 a0 a1 a2 a3 a4 a5 a6 a7 a8 a9 a10 a11 q0 q1 z0 z1 HR ⊢
 refine(KL.out _ HG1.out).mono ?_
 rintro e w2 ⟨rfl,g2⟩
 have G2:=uZ (G1.out.trans g2)
 have HG2:=uZ (GA.out.trans G2.out)
 clear r0 b0 a0 a1 a2 a3 a4 a5 a6 a7 a8 a9 a10 a11 q0 q1 z0 z1 HR g2 KF KL G1 HG1
 obtain⟨⟨r0,b0,a0,a1,a2,a3,a4,a5,a6,a7,a8,a9,a10,a11⟩,hR⟩:=HB.out _ G2.out
 obtain⟨q0,q1,z0,z1⟩:=res4 hR
 have HR:=uZ hR
 clear hR
 dsimp only
 go_wp2_with fail
 refine(KC.out _ HG2.out).mono ?_
 rintro e w3 ⟨v3,rfl,hv3,g3,-⟩
 have G3:=uZ (G2.out.trans g3)
 have HG3:=uZ (GA.out.trans G3.out)
 have HV3:=uZ hv3
 clear r0 b0 a0 a1 a2 a3 a4 a5 a6 a7 a8 a9 a10 a11 q0 q1 z0 z1 HR g3 hv3 KC G2 HG2
 obtain⟨⟨r0,b0,a0,a1,a2,a3,a4,a5,a6,a7,a8,a9,a10,a11⟩,hR⟩:=HB.out _ G3.out
 obtain⟨q0,q1,z0,z1⟩:=res4 hR
 have HR:=uZ hR
 clear hR
 dsimp only
 have hbb:(b != 0)=true:=by simpa using Hbz.out
 go_wp2_with fail
 refine(KH.out _ _ HV3.out).mono ?_
 rintro e w4 ⟨rfl,rfl⟩
 dsimp only
 go_wp2_with fail
 obtain⟨p0,p1⟩:=res_cells (v0:=(.slice Ar t.roots.length cr)) (v1:=(.slice Ab t.brs.length cb)) q0 q1
 refine bodyPost_ret (v:=.tuple #[.agg #[.slice Ar t.roots.length cr,.slice Ab t.brs.length cb],.int .i64 7]) b_27 rfl ?_
 exact laidTr HR.out b_37 HG3.out (HTT.out _ HG3.out)
set_option maxHeartbeats 16000000 in
set_option maxRecDepth 100000 in
theorem refCreateUsedN (t:Tr) (o:Opn) (rv bv:Value) (w:World) (hr:SlI w rv t.roots) (hv:SlBr w bv t.brs) (hf:FewBr t.brs) (hrl:t.roots.length≤1000000) (ho:brFind t.brs o.unit=none) (hl:levR t o.parent o.level=0) (hbz:o.before=0) {x:Br} (hu:markedF t.brs o.mark=some x):Calls Tryz.prog 56 #[.agg #[rv,bv],o.agg] w (RetTr (t,19) w):=by
 have HTT:=uZ (fun W (hW:Grew w W)=>(⟨hr.mono hW,hv.mono hW⟩:TrOk W rv bv t))
 have kF:=fun W (hW:Grew w W)=>refFind19 t.brs o.unit rv bv W (hv.mono hW)
 rw[ho] at kF
 unfold TFindEnd at kF
 dsimp only [Option.getD_none,Option.isSome_none,br0] at kF
 have kL:=fun W (hW:Grew w W)=>lev21 t o.parent o.level rv bv W (hr.mono hW) (hv.mono hW)
 rw[hl] at kL
 have kC:=fun W (hW:Grew w W)=>refChildren t.roots t.brs o.parent rv bv W (hr.mono hW) (hv.mono hW) hf hrl
 rw[show childs ⟨t.roots,t.brs⟩ o.parent=childs t o.parent from rfl] at kC
 have kM:=fun W (hW:Grew w W)=>refMarked t.brs o.mark rv bv W (hv.mono hW)
 rw[hu] at kM
 unfold markV at kM
 dsimp only [Option.isSome_some] at kM
 generalize childs t o.parent=KS at *
 have HBX:=uZ (ref_box w o)
 obtain⟨Ar,cr,rfl,-⟩:=SlI.open_ hr
 obtain⟨Ab,cb,rfl,-⟩:=SlBr.open_ hv
 clear hr hv hf hrl
 obtain⟨i,d,k,u,p,b,l,tt,m,x9,x10,x11⟩:=o
 unfold Opn.agg
 unfold Opn.cells at HBX
 dsimp only at HBX kF kL kC kM hbz ⊢
 have KF:=uZ kF
 have KL:=uZ kL
 have KC:=uZ kC
 have KM:=uZ kM
 have Hbz:=uZ hbz
 clear kF kL kC kM hbz
 have GA:=uZ ((((uX w).alloc (.cells [.slice Ar t.roots.length cr,.slice Ab t.brs.length cb].toArray 35)).alloc (.cells [.int .i64 i,.int .i64 d,.int .i64 k,.int .i64 u,.int .i64 p,.int .i64 b,.int .i64 l,.string tt,.string m,.int .i64 x9,.int .i64 x10,.int .i64 x11].toArray 25)).alloc (.cells [.slice none 0 0,.slice none 0 0].toArray 35))
 have HB:=uZ (fun W g=>HBX.out (.slice Ar t.roots.length cr) (.slice Ab t.brs.length cb) W g)
 clear HBX
 go_enter Tryz.func56,Tryz.ntmps56
 go_wp2_with fail
 generalize ((w.alloc (.cells [.slice Ar t.roots.length cr,.slice Ab t.brs.length cb].toArray 35)).alloc (.cells [.int .i64 i,.int .i64 d,.int .i64 k,.int .i64 u,.int .i64 p,.int .i64 b,.int .i64 l,.string tt,.string m,.int .i64 x9,.int .i64 x10,.int .i64 x11].toArray 25)).alloc (.cells [.slice none 0 0,.slice none 0 0].toArray 35)=WA at GA HB ⊢
 refine(KF.out _ GA.out).mono ?_
 rintro e w1 ⟨rfl,g1⟩
 have G1:=uZ (g1.alloc (.cells #[.int .i64 0,.int .i64 0,.int .i64 0,.string ⟨#[]⟩,.string ⟨#[]⟩] 51))
 have HG1:=uZ (GA.out.trans G1.out)
 obtain⟨⟨r0,b0,a0,a1,a2,a3,a4,a5,a6,a7,a8,a9,a10,a11⟩,hR⟩:=HB.out _ G1.out
 obtain⟨q0,q1,z0,z1⟩:=res4 hR
 have HR:=uZ hR
 clear hR
 clear g1
 dsimp only
 go_wp2_with fail
 generalize w1.alloc (.cells #[.int .i64 0,.int .i64 0,.int .i64 0,.string ⟨#[]⟩,.string ⟨#[]⟩] 51)=wY at G1 HG1 r0 b0 a0 a1 a2 a3 a4 a5 a6 a7 a8 a9 a10 a11 q0 q1 z0 z1 HR ⊢
 refine(KL.out _ HG1.out).mono ?_
 rintro e w2 ⟨rfl,g2⟩
 have G2:=uZ (G1.out.trans g2)
 have HG2:=uZ (GA.out.trans G2.out)
 clear r0 b0 a0 a1 a2 a3 a4 a5 a6 a7 a8 a9 a10 a11 q0 q1 z0 z1 HR g2 KF KL G1 HG1
 obtain⟨⟨r0,b0,a0,a1,a2,a3,a4,a5,a6,a7,a8,a9,a10,a11⟩,hR⟩:=HB.out _ G2.out
 obtain⟨q0,q1,z0,z1⟩:=res4 hR
 have HR:=uZ hR
 clear hR
 dsimp only
 go_wp2_with fail
 refine(KC.out _ HG2.out).mono ?_
 rintro e w3 ⟨v3,rfl,hv3,g3,-⟩
 have G3:=uZ (G2.out.trans g3)
 have HG3:=uZ (GA.out.trans G3.out)
 have HV3:=uZ hv3
 clear r0 b0 a0 a1 a2 a3 a4 a5 a6 a7 a8 a9 a10 a11 q0 q1 z0 z1 HR g3 hv3 KC G2 HG2
 obtain⟨⟨r0,b0,a0,a1,a2,a3,a4,a5,a6,a7,a8,a9,a10,a11⟩,hR⟩:=HB.out _ G3.out
 obtain⟨q0,q1,z0,z1⟩:=res4 hR
 have HR:=uZ hR
 clear hR
 dsimp only
 have hbb:(b != 0)=false:=by simpa using Hbz.out
 exact c_35
set_option maxHeartbeats 16000000 in
set_option maxRecDepth 100000 in
theorem refCreateManyN (t:Tr) (o:Opn) (rv bv:Value) (w:World) (hr:SlI w rv t.roots) (hv:SlBr w bv t.brs) (hf:FewBr t.brs) (hrl:t.roots.length≤1000000) (ho:brFind t.brs o.unit=none) (hl:levR t o.parent o.level=0) (hbz:o.before=0) (hu:markedF t.brs o.mark=none) (hge:256≤t.brs.length):Calls Tryz.prog 56 #[.agg #[rv,bv],o.agg] w (RetTr (t,8) w):=by
 have HTT:=uZ (fun W (hW:Grew w W)=>(⟨hr.mono hW,hv.mono hW⟩:TrOk W rv bv t))
 have kF:=fun W (hW:Grew w W)=>refFind19 t.brs o.unit rv bv W (hv.mono hW)
 rw[ho] at kF
 unfold TFindEnd at kF
 dsimp only [Option.getD_none,Option.isSome_none,br0] at kF
 have kL:=fun W (hW:Grew w W)=>lev21 t o.parent o.level rv bv W (hr.mono hW) (hv.mono hW)
 rw[hl] at kL
 have kC:=fun W (hW:Grew w W)=>refChildren t.roots t.brs o.parent rv bv W (hr.mono hW) (hv.mono hW) hf hrl
 rw[show childs ⟨t.roots,t.brs⟩ o.parent=childs t o.parent from rfl] at kC
 have kM:=fun W (hW:Grew w W)=>refMarked t.brs o.mark rv bv W (hv.mono hW)
 rw[hu] at kM
 unfold markV at kM
 dsimp only [Option.isSome_none] at kM
 generalize childs t o.parent=KS at *
 have HBX:=uZ (ref_box w o)
 obtain⟨Ar,cr,rfl,-⟩:=SlI.open_ hr
 obtain⟨Ab,cb,rfl,-⟩:=SlBr.open_ hv
 clear hr hv hf hrl
 obtain⟨i,d,k,u,p,b,l,tt,m,x9,x10,x11⟩:=o
 unfold Opn.agg
 unfold Opn.cells at HBX
 dsimp only at HBX kF kL kC kM hbz ⊢
 have KF:=uZ kF
 have KL:=uZ kL
 have KC:=uZ kC
 have KM:=uZ kM
 have Hbz:=uZ hbz
 clear kF kL kC kM hbz
 have GA:=uZ ((((uX w).alloc (.cells [.slice Ar t.roots.length cr,.slice Ab t.brs.length cb].toArray 35)).alloc (.cells [.int .i64 i,.int .i64 d,.int .i64 k,.int .i64 u,.int .i64 p,.int .i64 b,.int .i64 l,.string tt,.string m,.int .i64 x9,.int .i64 x10,.int .i64 x11].toArray 25)).alloc (.cells [.slice none 0 0,.slice none 0 0].toArray 35))
 have HB:=uZ (fun W g=>HBX.out (.slice Ar t.roots.length cr) (.slice Ab t.brs.length cb) W g)
 clear HBX
 go_enter Tryz.func56,Tryz.ntmps56
 go_wp2_with fail
 generalize ((w.alloc (.cells [.slice Ar t.roots.length cr,.slice Ab t.brs.length cb].toArray 35)).alloc (.cells [.int .i64 i,.int .i64 d,.int .i64 k,.int .i64 u,.int .i64 p,.int .i64 b,.int .i64 l,.string tt,.string m,.int .i64 x9,.int .i64 x10,.int .i64 x11].toArray 25)).alloc (.cells [.slice none 0 0,.slice none 0 0].toArray 35)=WA at GA HB ⊢
 have hgz:(256:Int)≤(t.brs.length:Int):=by omega
 clear hge
 refine(KF.out _ GA.out).mono ?_
 rintro e w1 ⟨rfl,g1⟩
 have G1:=uZ (g1.alloc (.cells #[.int .i64 0,.int .i64 0,.int .i64 0,.string ⟨#[]⟩,.string ⟨#[]⟩] 51))
 have HG1:=uZ (GA.out.trans G1.out)
 obtain⟨⟨r0,b0,a0,a1,a2,a3,a4,a5,a6,a7,a8,a9,a10,a11⟩,hR⟩:=HB.out _ G1.out
 obtain⟨q0,q1,z0,z1⟩:=res4 hR
 have HR:=uZ hR
 clear hR
 clear g1
 dsimp only
 go_wp2_with fail
 generalize w1.alloc (.cells #[.int .i64 0,.int .i64 0,.int .i64 0,.string ⟨#[]⟩,.string ⟨#[]⟩] 51)=wY at G1 HG1 r0 b0 a0 a1 a2 a3 a4 a5 a6 a7 a8 a9 a10 a11 q0 q1 z0 z1 HR ⊢
 refine(KL.out _ HG1.out).mono ?_
 rintro e w2 ⟨rfl,g2⟩
 have G2:=uZ (G1.out.trans g2)
 have HG2:=uZ (GA.out.trans G2.out)
 clear r0 b0 a0 a1 a2 a3 a4 a5 a6 a7 a8 a9 a10 a11 q0 q1 z0 z1 HR g2 KF KL G1 HG1
 obtain⟨⟨r0,b0,a0,a1,a2,a3,a4,a5,a6,a7,a8,a9,a10,a11⟩,hR⟩:=HB.out _ G2.out
 obtain⟨q0,q1,z0,z1⟩:=res4 hR
 have HR:=uZ hR
 clear hR
 dsimp only
 go_wp2_with fail
 refine(KC.out _ HG2.out).mono ?_
 rintro e w3 ⟨v3,rfl,hv3,g3,-⟩
 have G3:=uZ (G2.out.trans g3)
 have HG3:=uZ (GA.out.trans G3.out)
 have HV3:=uZ hv3
 clear r0 b0 a0 a1 a2 a3 a4 a5 a6 a7 a8 a9 a10 a11 q0 q1 z0 z1 HR g3 hv3 KC G2 HG2
 obtain⟨⟨r0,b0,a0,a1,a2,a3,a4,a5,a6,a7,a8,a9,a10,a11⟩,hR⟩:=HB.out _ G3.out
 obtain⟨q0,q1,z0,z1⟩:=res4 hR
 have HR:=uZ hR
 clear hR
 dsimp only
 have hbb:(b != 0)=false:=by simpa using Hbz.out
 exact c_36
set_option maxHeartbeats 16000000 in
set_option maxRecDepth 100000 in
theorem refCreateUsedB (t:Tr) (o:Opn) (rv bv:Value) (w:World) (hr:SlI w rv t.roots) (hv:SlBr w bv t.brs) (hf:FewBr t.brs) (hrl:t.roots.length≤1000000) (ho:brFind t.brs o.unit=none) (hl:levR t o.parent o.level=0) (hbz:o.before≠0∧o.before∈childs t o.parent) {x:Br} (hu:markedF t.brs o.mark=some x):Calls Tryz.prog 56 #[.agg #[rv,bv],o.agg] w (RetTr (t,19) w):=by
 have HTT:=uZ (fun W (hW:Grew w W)=>(⟨hr.mono hW,hv.mono hW⟩:TrOk W rv bv t))
 have kF:=fun W (hW:Grew w W)=>refFind19 t.brs o.unit rv bv W (hv.mono hW)
 rw[ho] at kF
 unfold TFindEnd at kF
 dsimp only [Option.getD_none,Option.isSome_none,br0] at kF
 have kL:=fun W (hW:Grew w W)=>lev21 t o.parent o.level rv bv W (hr.mono hW) (hv.mono hW)
 rw[hl] at kL
 have kC:=fun W (hW:Grew w W)=>refChildren t.roots t.brs o.parent rv bv W (hr.mono hW) (hv.mono hW) hf hrl
 rw[show childs ⟨t.roots,t.brs⟩ o.parent=childs t o.parent from rfl] at kC
 have kH:=fun v W h=>ref21Has (childs t o.parent) o.before v W h
 rw[decide_eq_true hbz.2] at kH
 replace hbz:=hbz.1
 have kM:=fun W (hW:Grew w W)=>refMarked t.brs o.mark rv bv W (hv.mono hW)
 rw[hu] at kM
 unfold markV at kM
 dsimp only [Option.isSome_some] at kM
 generalize childs t o.parent=KS at *
 have HBX:=uZ (ref_box w o)
 obtain⟨Ar,cr,rfl,-⟩:=SlI.open_ hr
 obtain⟨Ab,cb,rfl,-⟩:=SlBr.open_ hv
 clear hr hv hf hrl
 obtain⟨i,d,k,u,p,b,l,tt,m,x9,x10,x11⟩:=o
 unfold Opn.agg
 unfold Opn.cells at HBX
 dsimp only at HBX kF kL kC kM hbz kH ⊢
 have KF:=uZ kF
 have KL:=uZ kL
 have KC:=uZ kC
 have KM:=uZ kM
 have Hbz:=uZ hbz
 have KH:=uZ kH
 clear kF kL kC kM hbz kH
 have GA:=uZ ((((uX w).alloc (.cells [.slice Ar t.roots.length cr,.slice Ab t.brs.length cb].toArray 35)).alloc (.cells [.int .i64 i,.int .i64 d,.int .i64 k,.int .i64 u,.int .i64 p,.int .i64 b,.int .i64 l,.string tt,.string m,.int .i64 x9,.int .i64 x10,.int .i64 x11].toArray 25)).alloc (.cells [.slice none 0 0,.slice none 0 0].toArray 35))
 have HB:=uZ (fun W g=>HBX.out (.slice Ar t.roots.length cr) (.slice Ab t.brs.length cb) W g)
 clear HBX
 go_enter Tryz.func56,Tryz.ntmps56
 go_wp2_with fail
 generalize ((w.alloc (.cells [.slice Ar t.roots.length cr,.slice Ab t.brs.length cb].toArray 35)).alloc (.cells [.int .i64 i,.int .i64 d,.int .i64 k,.int .i64 u,.int .i64 p,.int .i64 b,.int .i64 l,.string tt,.string m,.int .i64 x9,.int .i64 x10,.int .i64 x11].toArray 25)).alloc (.cells [.slice none 0 0,.slice none 0 0].toArray 35)=WA at GA HB ⊢
 refine(KF.out _ GA.out).mono ?_
 rintro e w1 ⟨rfl,g1⟩
 have G1:=uZ (g1.alloc (.cells #[.int .i64 0,.int .i64 0,.int .i64 0,.string ⟨#[]⟩,.string ⟨#[]⟩] 51))
 have HG1:=uZ (GA.out.trans G1.out)
 obtain⟨⟨r0,b0,a0,a1,a2,a3,a4,a5,a6,a7,a8,a9,a10,a11⟩,hR⟩:=HB.out _ G1.out
 obtain⟨q0,q1,z0,z1⟩:=res4 hR
 have HR:=uZ hR
 clear hR
 clear g1
 dsimp only
 go_wp2_with fail
 generalize w1.alloc (.cells #[.int .i64 0,.int .i64 0,.int .i64 0,.string ⟨#[]⟩,.string ⟨#[]⟩] 51)=wY at G1 HG1 r0 b0 a0 a1 a2 a3 a4 a5 a6 a7 a8 a9 a10 a11 q0 q1 z0 z1 HR ⊢
 refine(KL.out _ HG1.out).mono ?_
 rintro e w2 ⟨rfl,g2⟩
 have G2:=uZ (G1.out.trans g2)
 have HG2:=uZ (GA.out.trans G2.out)
 clear r0 b0 a0 a1 a2 a3 a4 a5 a6 a7 a8 a9 a10 a11 q0 q1 z0 z1 HR g2 KF KL G1 HG1
 obtain⟨⟨r0,b0,a0,a1,a2,a3,a4,a5,a6,a7,a8,a9,a10,a11⟩,hR⟩:=HB.out _ G2.out
 obtain⟨q0,q1,z0,z1⟩:=res4 hR
 have HR:=uZ hR
 clear hR
 dsimp only
 go_wp2_with fail
 refine(KC.out _ HG2.out).mono ?_
 rintro e w3 ⟨v3,rfl,hv3,g3,-⟩
 have G3:=uZ (G2.out.trans g3)
 have HG3:=uZ (GA.out.trans G3.out)
 have HV3:=uZ hv3
 clear r0 b0 a0 a1 a2 a3 a4 a5 a6 a7 a8 a9 a10 a11 q0 q1 z0 z1 HR g3 hv3 KC G2 HG2
 obtain⟨⟨r0,b0,a0,a1,a2,a3,a4,a5,a6,a7,a8,a9,a10,a11⟩,hR⟩:=HB.out _ G3.out
 obtain⟨q0,q1,z0,z1⟩:=res4 hR
 have HR:=uZ hR
 clear hR
 dsimp only
 have hbb:(b != 0)=true:=by simpa using Hbz.out
 go_wp2_with fail
 refine(KH.out _ _ HV3.out).mono ?_
 rintro e w4 ⟨rfl,rfl⟩
 dsimp only
 exact c_35
set_option maxHeartbeats 16000000 in
set_option maxRecDepth 100000 in
theorem refCreateManyB (t:Tr) (o:Opn) (rv bv:Value) (w:World) (hr:SlI w rv t.roots) (hv:SlBr w bv t.brs) (hf:FewBr t.brs) (hrl:t.roots.length≤1000000) (ho:brFind t.brs o.unit=none) (hl:levR t o.parent o.level=0) (hbz:o.before≠0∧o.before∈childs t o.parent) (hu:markedF t.brs o.mark=none) (hge:256≤t.brs.length):Calls Tryz.prog 56 #[.agg #[rv,bv],o.agg] w (RetTr (t,8) w):=by
 have HTT:=uZ (fun W (hW:Grew w W)=>(⟨hr.mono hW,hv.mono hW⟩:TrOk W rv bv t))
 have kF:=fun W (hW:Grew w W)=>refFind19 t.brs o.unit rv bv W (hv.mono hW)
 rw[ho] at kF
 unfold TFindEnd at kF
 dsimp only [Option.getD_none,Option.isSome_none,br0] at kF
 have kL:=fun W (hW:Grew w W)=>lev21 t o.parent o.level rv bv W (hr.mono hW) (hv.mono hW)
 rw[hl] at kL
 have kC:=fun W (hW:Grew w W)=>refChildren t.roots t.brs o.parent rv bv W (hr.mono hW) (hv.mono hW) hf hrl
 rw[show childs ⟨t.roots,t.brs⟩ o.parent=childs t o.parent from rfl] at kC
 have kH:=fun v W h=>ref21Has (childs t o.parent) o.before v W h
 rw[decide_eq_true hbz.2] at kH
 replace hbz:=hbz.1
 have kM:=fun W (hW:Grew w W)=>refMarked t.brs o.mark rv bv W (hv.mono hW)
 rw[hu] at kM
 unfold markV at kM
 dsimp only [Option.isSome_none] at kM
 generalize childs t o.parent=KS at *
 have HBX:=uZ (ref_box w o)
 obtain⟨Ar,cr,rfl,-⟩:=SlI.open_ hr
 obtain⟨Ab,cb,rfl,-⟩:=SlBr.open_ hv
 clear hr hv hf hrl
 obtain⟨i,d,k,u,p,b,l,tt,m,x9,x10,x11⟩:=o
 unfold Opn.agg
 unfold Opn.cells at HBX
 dsimp only at HBX kF kL kC kM hbz kH ⊢
 have KF:=uZ kF
 have KL:=uZ kL
 have KC:=uZ kC
 have KM:=uZ kM
 have Hbz:=uZ hbz
 have KH:=uZ kH
 clear kF kL kC kM hbz kH
 have GA:=uZ ((((uX w).alloc (.cells [.slice Ar t.roots.length cr,.slice Ab t.brs.length cb].toArray 35)).alloc (.cells [.int .i64 i,.int .i64 d,.int .i64 k,.int .i64 u,.int .i64 p,.int .i64 b,.int .i64 l,.string tt,.string m,.int .i64 x9,.int .i64 x10,.int .i64 x11].toArray 25)).alloc (.cells [.slice none 0 0,.slice none 0 0].toArray 35))
 have HB:=uZ (fun W g=>HBX.out (.slice Ar t.roots.length cr) (.slice Ab t.brs.length cb) W g)
 clear HBX
 go_enter Tryz.func56,Tryz.ntmps56
 go_wp2_with fail
 generalize ((w.alloc (.cells [.slice Ar t.roots.length cr,.slice Ab t.brs.length cb].toArray 35)).alloc (.cells [.int .i64 i,.int .i64 d,.int .i64 k,.int .i64 u,.int .i64 p,.int .i64 b,.int .i64 l,.string tt,.string m,.int .i64 x9,.int .i64 x10,.int .i64 x11].toArray 25)).alloc (.cells [.slice none 0 0,.slice none 0 0].toArray 35)=WA at GA HB ⊢
 have hgz:(256:Int)≤(t.brs.length:Int):=by omega
 clear hge
 refine(KF.out _ GA.out).mono ?_
 rintro e w1 ⟨rfl,g1⟩
 have G1:=uZ (g1.alloc (.cells #[.int .i64 0,.int .i64 0,.int .i64 0,.string ⟨#[]⟩,.string ⟨#[]⟩] 51))
 have HG1:=uZ (GA.out.trans G1.out)
 obtain⟨⟨r0,b0,a0,a1,a2,a3,a4,a5,a6,a7,a8,a9,a10,a11⟩,hR⟩:=HB.out _ G1.out
 obtain⟨q0,q1,z0,z1⟩:=res4 hR
 have HR:=uZ hR
 clear hR
 clear g1
 dsimp only
 go_wp2_with fail
 generalize w1.alloc (.cells #[.int .i64 0,.int .i64 0,.int .i64 0,.string ⟨#[]⟩,.string ⟨#[]⟩] 51)=wY at G1 HG1 r0 b0 a0 a1 a2 a3 a4 a5 a6 a7 a8 a9 a10 a11 q0 q1 z0 z1 HR ⊢
 refine(KL.out _ HG1.out).mono ?_
 rintro e w2 ⟨rfl,g2⟩
 have G2:=uZ (G1.out.trans g2)
 have HG2:=uZ (GA.out.trans G2.out)
 clear r0 b0 a0 a1 a2 a3 a4 a5 a6 a7 a8 a9 a10 a11 q0 q1 z0 z1 HR g2 KF KL G1 HG1
 obtain⟨⟨r0,b0,a0,a1,a2,a3,a4,a5,a6,a7,a8,a9,a10,a11⟩,hR⟩:=HB.out _ G2.out
 obtain⟨q0,q1,z0,z1⟩:=res4 hR
 have HR:=uZ hR
 clear hR
 dsimp only
 go_wp2_with fail
 refine(KC.out _ HG2.out).mono ?_
 rintro e w3 ⟨v3,rfl,hv3,g3,-⟩
 have G3:=uZ (G2.out.trans g3)
 have HG3:=uZ (GA.out.trans G3.out)
 have HV3:=uZ hv3
 clear r0 b0 a0 a1 a2 a3 a4 a5 a6 a7 a8 a9 a10 a11 q0 q1 z0 z1 HR g3 hv3 KC G2 HG2
 obtain⟨⟨r0,b0,a0,a1,a2,a3,a4,a5,a6,a7,a8,a9,a10,a11⟩,hR⟩:=HB.out _ G3.out
 obtain⟨q0,q1,z0,z1⟩:=res4 hR
 have HR:=uZ hR
 clear hR
 dsimp only
 have hbb:(b != 0)=true:=by simpa using Hbz.out
 go_wp2_with fail
 refine(KH.out _ _ HV3.out).mono ?_
 rintro e w4 ⟨rfl,rfl⟩
 dsimp only
 exact c_36
end Go.Proofs.YtafncfomiolmgaaGreatDoor
namespace Go.Proofs.YtafncfomiolmgaaGreatDoor
open Go.RowKit
def stepT (t:Tr) (o:Opn):Tr × Int:=if o.kind=1 then creR t o else if o.kind=2 then movR t o else if o.kind=5 then remR t o else labR t o
theorem stepT_is {t:Tr} {o:Opn} (hf:formedO o=true) (h6:o.kind≠6):stepT t o=if faultO t o=0 then(newT t o,0) else(t,faultO t o):=by
 unfold stepT
 rcases kind_of hf h6 with h|h|h|h|h
 ·rw[if_pos h,faultO_1 h,newT_1 h]
  rfl
 ·rw[if_neg b_37,if_pos h,faultO_2 h]
  unfold movR
  cases hb:brFind t.brs o.unit with
  | none =>
   have:faultM t o=7:=by
    unfold faultM
    rw[hb]
   rw[this,if_neg b_36]
  | some u=>rw[newT_2 h hb]
 ·rw[if_neg b_37,if_neg b_37,if_neg b_37,faultO_34 (.inl h)]
  unfold labR faultL
  cases hb:brFind t.brs o.unit with
  | none=>rfl
  | some u =>
   rw[newT_3 h hb]
   dsimp only
   have hz:¬ (o.kind=4∧usedB t o.mark o.unit=true):=fun k=>by have:=k.1;omega
   rw[if_pos h,if_neg hz,if_pos rfl]
 ·rw[if_neg b_37,if_neg b_37,if_neg b_37,faultO_34 (.inr h)]
  unfold labR faultL
  cases hb:brFind t.brs o.unit with
  | none=>rfl
  | some u =>
   rw[newT_4 h hb]
   dsimp only
   rw[if_neg b_37]
   by_cases hu:usedB t o.mark o.unit=true
   ·have hz:o.kind=4∧usedB t o.mark o.unit=true:=⟨h,hu⟩
    rw[if_pos hu,if_pos hz,if_neg b_36]
   ·have hz:¬ (o.kind=4∧usedB t o.mark o.unit=true):=fun k=>hu k.2
    rw[if_neg hu,if_neg hz,if_pos rfl]
 ·rw[if_neg b_37,if_neg b_37,if_pos h,faultO_5 h]
  unfold remR faultR
  cases hb:brFind t.brs o.unit with
  | none=>rfl
  | some u =>
   rw[newT_5 h hb]
   dsimp only
   by_cases hk:u.kids≠[]
   ·simp[hk]
   ·simp[hk]
def MarksLe (n:Nat) (l:List Br):Prop:=∀ b∈l,b.mark.size≤n
theorem setK_marks {n:Nat} {t:Tr} (h:MarksLe n t.brs) (p:Int) (ks:List Int):MarksLe n (setK t p ks).brs:=by
 rw[setK_brs]
 split
 ·exact h
 ·intro b hb
  obtain⟨c,hc,rfl⟩:=List.mem_map.1 hb
  have:=h c hc
  unfold kidG
  split
  ·exact this
  ·exact this
theorem setU_marks {n:Nat} {t:Tr} (h:MarksLe n t.brs) (m:Int) (f:Br→Br) (hf:∀ b,b.mark.size≤n→(f b).mark.size≤n):MarksLe n (setU t m f).brs:=by
 intro b hb
 obtain⟨c,hc,rfl⟩:=List.mem_map.1 hb
 have:=h c hc
 split
 ·exact hf c this
 ·exact this
theorem newT_marks {n:Nat} {t:Tr} {o:Opn} (h:MarksLe n t.brs) (ho:o.mark.size≤n):MarksLe n (newT t o).brs:=by
 unfold newT
 split
 ·intro b hb
  unfold createT at hb
  rcases (mem_insB _ _ _).1 hb with rfl|hb
  ·exact ho
  ·exact setK_marks h _ _ b hb
 ·split
  ·exact h
  ·split
   ·unfold moveT
    exact setU_marks (setK_marks (setK_marks h _ _) _ _) _ _ fun b hb=>hb
   ·split
    ·intro b hb
     unfold removeT at hb
     exact setK_marks h _ _ b (List.mem_filter.1 hb).1
    ·split
     ·exact setU_marks h _ _ fun b hb=>hb
     ·exact setU_marks h _ _ fun b _=>ho
theorem marks_at {n:Nat} {l:List Br} (h:MarksLe n l) (hn:n≤9223372036854775807):∀ i (hi:i<l.length),l[i].mark.size≤9223372036854775807:=fun _ hi=>Nat.le_trans (h _ (List.getElem_mem hi)) hn
end Go.Proofs.YtafncfomiolmgaaGreatDoor
namespace Go.Proofs.YtafncfomiolmgaaGreatDoor
open Go.RowKit
theorem insB_split (b:Br):∀(l:List Br) (k:Nat),k≤l.length→(∀ j (h:j<l.length),j<k→l[j].id<b.id)→(∀ h:k<l.length,¬ l[k].id<b.id)→insB b l=l.take k++b::l.drop k
 | [],k,hk,_,_=>by
  obtain rfl:k=0:=by simpa using hk
  rfl
 | x::r,0,_,_,h2=>by
  have h:=h2 b_38
  simp only [List.getElem_cons_zero] at h
  rw[insB,if_neg h]
  rfl
 | x::r,k+1,hk,h1,h2=>by
  have h:=h1 0 b_38 b_37
  simp only [List.getElem_cons_zero] at h
  rw[insB,if_pos h,insB_split b r k (by simpa using hk) (fun j hj hjk=>by have:=h1 (j+1) (by simpa using hj) b_37;simpa using this) (fun hj=>by have:=h2 (by simpa using hj);simpa using this)]
  rfl
theorem ok_split {w:World} {cs:List BrC} {l:List Br} {c:BrC} {b:Br} (hl:cs.length=l.length) (h:∀ i (hi:i<cs.length) (hi':i<l.length),BrOk w cs[i] l[i]) (hc:BrOk w c b) (k:Nat) (hk:k≤l.length) :
  (cs.take k++c::cs.drop k).length=(l.take k++b::l.drop k).length∧∀ i (hi:i<(cs.take k++c::cs.drop k).length) (hi':i<(l.take k++b::l.drop k).length),BrOk w (cs.take k++c::cs.drop k)[i] (l.take k++b::l.drop k)[i]:=by
 have h1:(cs.take k).length=k:=by rw[List.length_take];omega
 have h2:(l.take k).length=k:=by rw[List.length_take];omega
 refine⟨by simp[hl],fun i hi hi'=>?_⟩
 by_cases e:i<k
 ·rw[List.getElem_append_left b_37,List.getElem_append_left b_37,List.getElem_take,List.getElem_take]
  exact h i b_37 b_37
 ·rw[List.getElem_append_right b_37,List.getElem_append_right b_37]
  simp only [h1,h2]
  by_cases e2:i=k
  ·subst e2
   simp only [Nat.sub_self,List.getElem_cons_zero]
   exact hc
  ·obtain⟨m,hm⟩:∃ m,i-k=m+1:=⟨i-k-1,by omega⟩
   simp only [hm,List.getElem_cons_succ,List.getElem_drop]
   exact h _ _ _
theorem cre_done {w w0:World} {base:Nat} {v:Value} {cs:List BrC} {l:List Br} {b:Br} {k m:Nat} (hg:Grew w0 w) (hl:cs.length=l.length) (h:∀ i (hi:i<cs.length) (hi':i<l.length),BrOk w0 cs[i] l[i]) (hk:k≤l.length) (hkid:b.kids=[])
  (ho:w.ownsRow base 53 6 v m ([]++(cs.take k).flatMap BrC.cells++[.int .i64 b.id,.int .i64 b.parent,.int .i64 b.level,.string b.title,.string b.mark,.slice none 0 0]++(cs.drop k).flatMap BrC.cells)) (hins:insB b l=l.take k++b::l.drop k):SlBr w v (insB b l):=by
 have e:([]++(cs.take k).flatMap BrC.cells++[.int .i64 b.id,.int .i64 b.parent,.int .i64 b.level,.string b.title,.string b.mark,.slice none 0 0]++(cs.drop k).flatMap BrC.cells)=(cs.take k++b.c (.slice none 0 0)::cs.drop k).flatMap BrC.cells:=by simp[BrC.cells,Br.c]
 rw[e] at ho
 have hc:BrOk w0 (b.c (.slice none 0 0)) b:=⟨rfl,by rw[hkid];exact SlI.nil w0⟩
 obtain⟨h1,h2⟩:=ok_split hl h hc k hk
 rw[hins]
 exact⟨_,Rd.of_own ho,h1,fun i hi hi'=>(h2 i hi hi').mono hg⟩
theorem put1_meet {W0 W:World} {X:Nat} {T:Tr} {rv bv v:Value} {l:List Br} (hX:W.heap[X]? = some (.cells #[rv,bv] 35 (0,0))) (hlo:W0.heap.size≤X) (hG:Grew W0 W) (h:TrOk W rv bv T) (hv:SlBr W v l):PutCut W0 X ⟨T.roots,l⟩ (W.setCell ⟨X,1,none⟩ v):=by
 have k1:=heap_setCell_same W X 1 #[rv,bv] 35 v hX
 obtain⟨s0,s1⟩:=slices2 h
 have h2:TrOk W rv v ⟨T.roots,l⟩:=⟨h.1,hv⟩
 exact⟨rv,v,by simpa using k1,h2.setS hX s0 s1,hG.setCell hlo _⟩
theorem br_cells {W:World} {B:Nat} {v0 v1 v2 v3 v4 v5:Value} (h:W.heap[B]? = some (.cells #[v0,v1,v2,v3,v4,v5] 53 (0,0))):W.cell? ⟨B,0,none⟩=some v0∧W.cell? ⟨B,1,none⟩=some v1∧W.cell? ⟨B,2,none⟩=some v2∧W.cell? ⟨B,3,none⟩=some v3∧W.cell? ⟨B,4,none⟩=some v4∧W.cell? ⟨B,5,none⟩=some v5:=by
 simp[World.cell?,h]
theorem six_grow {WZ W W2:World} {B:Nat} {v0 v1 v2 v3 v4 v5:Value} (h:(W.cell? ⟨B,0,none⟩=some v0∧W.cell? ⟨B,1,none⟩=some v1∧W.cell? ⟨B,2,none⟩=some v2∧W.cell? ⟨B,3,none⟩=some v3∧W.cell? ⟨B,4,none⟩=some v4∧W.cell? ⟨B,5,none⟩=some v5)∧Grew WZ W) (g:Grew W W2) :
  (W2.cell? ⟨B,0,none⟩=some v0∧W2.cell? ⟨B,1,none⟩=some v1∧W2.cell? ⟨B,2,none⟩=some v2∧W2.cell? ⟨B,3,none⟩=some v3∧W2.cell? ⟨B,4,none⟩=some v4∧W2.cell? ⟨B,5,none⟩=some v5)∧Grew WZ W2 :=
 ⟨⟨uQ g h.1.1,uQ g h.1.2.1,uQ g h.1.2.2.1,uQ g h.1.2.2.2.1,uQ g h.1.2.2.2.2.1,uQ g h.1.2.2.2.2.2⟩,h.2.trans g⟩
theorem seven_grow {WZ W W2:World} {B:Nat} {v0 v1 v2 v3 v4 v5 v6:Value} {A:Addr} (h:((W.cell? ⟨B,0,none⟩=some v0∧W.cell? ⟨B,1,none⟩=some v1∧W.cell? ⟨B,2,none⟩=some v2∧W.cell? ⟨B,3,none⟩=some v3∧W.cell? ⟨B,4,none⟩=some v4∧W.cell? ⟨B,5,none⟩=some v5)∧Grew WZ W)∧W.cell? A=some v6) (g:Grew W W2) :
  ((W2.cell? ⟨B,0,none⟩=some v0∧W2.cell? ⟨B,1,none⟩=some v1∧W2.cell? ⟨B,2,none⟩=some v2∧W2.cell? ⟨B,3,none⟩=some v3∧W2.cell? ⟨B,4,none⟩=some v4∧W2.cell? ⟨B,5,none⟩=some v5)∧Grew WZ W2)∧W2.cell? A=some v6:=⟨six_grow h.1 g,uQ g h.2⟩
theorem ones_of {w:World} {cs:List BrC} {l:List Br} (hl:cs.length=l.length) (h:∀ i (hi:i<cs.length) (hi':i<l.length),BrOk w cs[i] l[i]):∀ c∈cs,c.kv.oneCell'=true:=fun c hc=>by
 obtain⟨i,hi,rfl⟩:=List.mem_iff_getElem.1 hc
 exact slI_one (h i hi b_37).2
theorem setG_len (t:Tr) (p:Int) (ks:List Int):(setG t p ks).brs.length=t.brs.length:=by
 unfold setG
 simp
end Go.Proofs.YtafncfomiolmgaaGreatDoor
namespace Go.Proofs.YtafncfomiolmgaaGreatDoor
open Go
section
variable {P:Program} {ops:Array Oper} {Q:Exit→Act→World→Prop} {md:Region.Mode} {S:World→Prop} {z:Nat}
def waitsFor (md:Region.Mode) (ops:Array Oper) (i:Nat) (listed:Array Bool):Nat→Nat→Bool
 | 0,_=>false
 | f+1,j=>!listed.getD j true && ((ops[j]?).map fun o=>o.after.any fun e=>Region.binds md e && (e.on == i || waitsFor md ops i listed f e.on)).getD false
theorem waits_open {i f j:Nat} {listed:Array Bool} (h:waitsFor md ops i listed f j=true):listed.getD j true=false:=by
 cases f with
 | zero=>cases h
 | succ f =>
  unfold waitsFor at h
  simp only [Bool.and_eq_true,Bool.not_eq_true'] at h
  exact h.1
theorem waits_shut {i f j:Nat} {listed:Array Bool} (hi:listed.getD i true=false) (h:waitsFor md ops i listed f j=true):j∉Region.ready md ops listed:=by
 cases f with
 | zero=>cases h
 | succ f =>
  unfold waitsFor at h
  simp only [Bool.and_eq_true] at h
  intro hj
  obtain⟨-,o,ho,hall⟩:=mem_ready.1 hj
  have h2:=h.2
  rw[ho] at h2
  simp only [Option.map_some,Option.getD_some,Array.any_eq_true',Bool.and_eq_true,Bool.or_eq_true,beq_iff_eq] at h2
  obtain⟨e,he,hb,hon⟩:=h2
  have hd:=hall e he hb
  have hcon:∀ k,listed.getD k true=false→listed.getD k false=true→False:=fun k h1 h2=>by
   rcases Nat.lt_or_ge k listed.size with hk|hk
   ·simp[hk] at h1 h2
    rw[h1] at h2
    cases h2
   ·simp[Array.getElem?_eq_none hk] at h1
  rcases hon with rfl|hon
  ·exact hcon _ hi hd
  ·exact hcon _ (waits_open hon) hd
theorem waits_on {i k:Nat} {listed:Array Bool} (hi:listed.getD i true=false) (hk:k∈Region.ready md ops listed):∀ f j,waitsFor md ops i listed f j=true→waitsFor md ops i (listed.setIfInBounds k true) f j=true
 | 0,_,h=>h
 | f+1,j,h=>by
  have hne:k≠j:=fun e=>waits_shut hi h (e▸hk)
  unfold waitsFor at h ⊢
  rw[getD_set_ne true hne]
  simp only [Bool.and_eq_true] at h ⊢
  refine⟨h.1,?_⟩
  have h2:=h.2
  cases ho:ops[j]? with
  | none=>rw[ho] at h2;cases h2
  | some o =>
   rw[ho] at h2
   simp only [Option.map_some,Option.getD_some,Array.any_eq_true',Bool.and_eq_true,Bool.or_eq_true,beq_iff_eq] at h2 ⊢
   obtain⟨e,he,hb,hon⟩:=h2
   exact⟨e,he,hb,hon.imp id (waits_on hi hk f e.on)⟩
def wpAnyE (P:Program) (md:Region.Mode) (ops:Array Oper) (Q:Exit→Act→World→Prop) (S:World→Prop) (z:Nat):Nat→Array Bool→Act→World→Prop
 | 0,listed,a,w=>Region.ready md ops listed=[]∧Q .normal a w
 | f+1,listed,a,w=>(Region.ready md ops listed=[]→Q .normal a w)∧∀ i∈Region.ready md ops listed,wpOp P ops Q i (fun a' w'=>(i≠z→S w')∧wpAnyE P md ops Q S z f (listed.setIfInBounds i true) a' w') a w
theorem any_of_E:∀(f:Nat) (listed:Array Bool) (a:Act) (w:World),wpAnyE P md ops Q S z f listed a w→wpAny P md ops Q f listed a w
 | 0,_,_,_,h=>h
 | f+1,_,_,_,h=>⟨h.1,fun i hi=>wpOp_mono (fun a' w' h'=>any_of_E f _ a' w' h'.2) (h.2 i hi)⟩
theorem firstE {i F:Nat} {oi:Oper} {v:Value} (hi:ops[i]? = some oi) (hsel:∀(j:Nat) (o:Oper) cs b,ops[j]? = some o→o.op≠.select cs b) (hQ:∀ c a w,Q (.panic c) (a.put oi.dst v) w→Q (.panic c) a w) :
  ∀(f:Nat) (listed:Array Bool) (a:Act) (w:World),(∀ j oj,ops[j]? = some oj→j≠i→listed.getD j true=false→(∀ e∈oj.after,Region.binds md e=true→e.on≠i)→oi.apart ops oj=true) →
   i∈Region.ready md ops listed→waitsFor md ops i listed F z=true→YieldsIf P ops S oi v a→S w →
   wpAnyE P md ops Q S z f (listed.setIfInBounds i true) (a.put oi.dst v) w→wpAnyE P md ops Q S z (f+1) listed a w:=by
 intro f
 induction f with
 | zero =>
  intro listed a w _ hr _ hy hS H
  refine⟨fun h=>absurd hr (by rw[h];exact List.not_mem_nil),fun j hj=>?_⟩
  by_cases e:j=i
  ·subst e
   exact hy.wpOp hi hS ⟨fun _=>hS,H⟩
  ·have:=ready_mono hj e
   rw[H.1] at this
   exact absurd this List.not_mem_nil
 | succ f ih =>
  intro listed a w hfree hr hwz hy hS H
  refine⟨fun h=>absurd hr (by rw[h];exact List.not_mem_nil),fun j hj=>?_⟩
  by_cases e:j=i
  ·subst e
   exact hy.wpOp hi hS ⟨fun _=>hS,H⟩
  have hun:=(mem_ready.1 hr).1
  have hjz:j≠z:=fun h=>waits_shut hun hwz (h▸hj)
  obtain⟨hjun,oj,hoj,hall⟩:=mem_ready.1 hj
  have hno:∀ e∈oj.after,Region.binds md e=true→e.on≠i:=fun e he hb h=>by
   have h1:=hall e he hb
   rw[h] at h1
   rcases Nat.lt_or_ge i listed.size with hk|hk
   ·simp[hk] at h1 hun
    rw[h1] at hun
    cases hun
   ·simp[Array.getElem?_eq_none hk] at hun
  refine wpOp_mono (fun a' w' h3=>⟨h3.2.1,ih _ a' w' (fun k ok hok hki hkun hkno=>?_) (ready_mono hr fun h=>e h.symm) (waits_on hun hj F z hwz) h3.1 (h3.2.1 hjz) ?_⟩) (wpOp_putIf hoj (hfree j oj hoj e hjun hno) (fun cs b=>hsel i oi cs b hi) (fun cs b=>hsel j oj cs b hoj) hQ hy (H.2 j (ready_mono hj e)))
  ·refine hfree k ok hok hki ?_ hkno
   by_cases hjk:j=k
   ·exact hjk▸hjun
   ·rw[getD_set_ne true hjk] at hkun
    exact hkun
  ·rw[Array.setIfInBounds_comm _ _ e]
   exact h3.2.2
theorem takeE {i:Nat} (F:Nat) {oi:Oper} {v:Value} {f:Nat} {listed:Array Bool} {a:Act} {w:World} (hi:ops[i]? = some oi) (hs:Region.noSelect ops=true) (hf:Region.free md ops listed i=true) (hr:(Region.ready md ops listed).contains i=true) (hw:waitsFor md ops i listed F z=true)
  (hQ:∀ c a w,Q (.panic c) (a.put oi.dst v) w→Q (.panic c) a w) (hy:YieldsIf P ops S oi v a) (hS:S w) (h:wpAnyE P md ops Q S z f (listed.setIfInBounds i true) (a.put oi.dst v) w):wpAnyE P md ops Q S z (f+1) listed a w :=
 firstE hi (Region.noSelect_spec hs) hQ f listed a w (Region.free_spec hi hf) (by simpa using hr) hw hy hS h
def AllE (P:Program) (md:Region.Mode) (ops:Array Oper) (Q:Exit→Act→World→Prop) (S:World→Prop) (z f:Nat) (listed:Array Bool) (a:Act) (w:World) (rs:List Nat):Prop :=
 ∀ i∈rs,wpOp P ops Q i (fun a' w'=>(i≠z→S w')∧wpAnyE P md ops Q S z f (listed.setIfInBounds i true) a' w') a w
theorem AllE.nil {f:Nat} {listed:Array Bool} {a:Act} {w:World}:AllE P md ops Q S z f listed a w []:=fun _ h=>absurd h List.not_mem_nil
theorem AllE.cons {f:Nat} {listed:Array Bool} {a:Act} {w:World} {i:Nat} {o:Oper} {rs:List Nat} (ho:ops[i]? = some o)
  (h:∀ K':Act→World→Prop,Shut (∀ a w,S w→(S w→wpAnyE P md ops Q S z f (listed.setIfInBounds i true) a w)→K' a w)→if Region.wanted o (yielded ops a.tmps)=true then Oper.wp P o a w K' Q else K' (a.put o.dst undef) w)
  (hs:AllE P md ops Q S z f listed a w rs):AllE P md ops Q S z f listed a w (i::rs):=fun j hj=>by
 rcases List.mem_cons.1 hj with rfl|hj
 ·exact wpOp_step ho (fun K' hK=>h K' (fun a w hS hW=>hK a w ⟨fun _=>hS,hW hS⟩))
 ·exact hs j hj
theorem AllE.last {f:Nat} {listed:Array Bool} {a:Act} {w:World} {o:Oper} (ho:ops[z]? = some o)
  (h:∀ K':Act→World→Prop,Shut (∀ a w,wpAnyE P md ops Q S z f (listed.setIfInBounds z true) a w→K' a w)→if Region.wanted o (yielded ops a.tmps)=true then Oper.wp P o a w K' Q else K' (a.put o.dst undef) w):AllE P md ops Q S z f listed a w [z]:=fun j hj=>by
 obtain rfl:=List.mem_singleton.1 hj
 exact wpOp_step ho (fun K' hK=>h K' (fun a w hW=>hK a w ⟨fun h=>absurd rfl h,hW⟩))
theorem readyE {rs:List Nat} {f:Nat} {listed:Array Bool} {a:Act} {w:World} (hr:Region.ready md ops listed=rs) (hne:rs≠[]) (h:AllE P md ops Q S z f listed a w rs):wpAnyE P md ops Q S z (f+1) listed a w :=
 ⟨fun h0=>absurd (hr▸h0) hne,hr▸h⟩
theorem doneE {listed:Array Bool} {a:Act} {w:World} (hr:Region.ready md ops listed=[]) (h:Q .normal a w):∀ f,wpAnyE P md ops Q S z f listed a w
 | 0=>⟨hr,h⟩
 | _+1=>⟨fun _=>h,by rw[hr];exact fun _ h=>absurd h List.not_mem_nil⟩
theorem regionE {id:Nat} {a:Act} {w:World} (z:Nat) (hm:P.follows .mixedOrders=true) (hS:S w.drew) (h:S w.drew→wpAnyE P .any ops Q S z ops.size (Array.replicate ops.size false) a w.drew):(Code.region id ops true).wp P Q a w :=
 wp_region_any hm (any_of_E _ _ _ _ (h hS))
end
end Go.Proofs.YtafncfomiolmgaaGreatDoor