/- Lemmas on what the functions of the program and of the library compute: Rg4, Rg5. The conditions stand at each. -/
import Derived.Test.YtafncfomiolmgaaGreatDoorQ38
import Derived.Test.YtafncfomiolmgaaGreatDoorQ36
import Derived.Test.YtafncfomiolmgaaGreatDoorQ39
import Derived.Deep.CutRange
import Derived.Deep.RegionHeld3
namespace Go.Proofs.YtafncfomiolmgaaGreatDoor
open Go.RowKit
set_option maxRecDepth 100000 in
theorem c_9 {p:Prop} (h:p:=by
 have G2a:=uZ (G1.out.trans g2)
 have G2:=uZ (G2a.out.alloc (.cells [.slice Ar t.roots.length cr,.slice Ab t.brs.length cb].toArray 35))
 have HG2:=uZ (GA.out.trans G2.out)
 have HPX:=uZ (heap_allocE (a:=w2) (p:=(.cells [.slice Ar t.roots.length cr,.slice Ab t.brs.length cb].toArray 35)) rfl)
 have HXL:=uZ G2a.out.size
 clear Hk
 clear r0 b0 a0 a1 a2 a3 a4 a5 a6 a7 a8 a9 a10 a11 q0 q1 z0 z1 HR g2
 obtain⟨⟨r0,b0,a0,a1,a2,a3,a4,a5,a6,a7,a8,a9,a10,a11⟩,hR⟩:=HB.out _ G2a.out
 obtain⟨q0,q1,z0,z1⟩:=res4 hR
 have HR:=uZ hR
 clear hR
 obtain⟨⟨r0y,b0y,a0y,a1y,a2y,a3y,a4y,a5y,a6y,a7y,a8y,a9y,a10y,a11y⟩,hRy⟩:=HB.out _ G2.out
 obtain⟨q0y,q1y,z0y,z1y⟩:=res4 hRy
 have HRy:=uZ hRy
 clear hRy
 dsimp only
 go_wp2_with fail
 clear r0 b0 a0 a1 a2 a3 a4 a5 a6 a7 a8 a9 a10 a11 q0 q1 z0 z1 HR
 clear r0y b0y a0y a1y a2y a3y a4y a5y a6y a7y a8y a9y a10y a11y q0y q1y z0y z1y HRy
 generalize w2.alloc (.cells [.slice Ar t.roots.length cr,.slice Ab t.brs.length cb].toArray 35)=wY at HPX G2 HG2 ⊢
 generalize w2.heap.size=X at HPX HXL ⊢
 have HWA:=uZ (Array.getElem?_eq_some_iff.1 (HB.out WA (uX _)).2).1
 refine(KST.out _ HG2.out).mono ?_
 rintro e w3 ⟨rv3,bv3,rfl,ht3,g3⟩
 obtain⟨⟨A3,n3,k3,rfl⟩,B3,m3,l3,rfl⟩:=slices2 ht3
 have HT3:=uZ ht3
 have HX3:=uZ (uK g3 HPX.out)
 have G3:=uZ (G2.out.trans g3)
 have HG3:=uZ (GA.out.trans G3.out)
 clear ht3 g3
 obtain⟨⟨r0,b0,a0,a1,a2,a3,a4,a5,a6,a7,a8,a9,a10,a11⟩,hR⟩:=HB.out _ G3.out
 obtain⟨q0,q1,z0,z1⟩:=res4 hR
 have HR:=uZ hR
 clear hR
 obtain⟨x0,x1,z2,z3⟩:=zt_facts4 HX3.out
 have e0:¬ w.heap.size+1+1=X:=by have:=HWA.out;have:=HXL.out;omega
 have e1:¬ X=w.heap.size+1+1:=fun h=>e0 h.symm
 dsimp only
 by_cases hn0:n=0
 rotate_left
 ·have hnb:(n != 0)=true:=by simpa using hn0
  obtain rfl:=HN.out hn0
  have hR2:=heap_set ⟨X,1,none⟩ (.slice B3 m3 l3) (heap_set ⟨X,0,none⟩ (.slice A3 n3 k3) HR.out e0) e0
  clear q0 q1 z0 z1
  obtain⟨q0,q1,z0,z1⟩:=res4 hR2
  have HGS:=uZ ((HG3.out.setCell (p:=⟨X,0,none⟩) (Nat.le_trans GA.out.size HXL.out) (.slice A3 n3 k3)).setCell (p:=⟨X,1,none⟩) (Nat.le_trans GA.out.size HXL.out) (.slice B3 m3 l3))
  clear hR2
  go_wp2_with fail
  obtain⟨p0,p1⟩:=res_cells (v0:=(.slice none 0 0)) (v1:=(.slice none 0 0)) q0 q1
  refine bodyPost_ret (v:=.tuple #[.agg #[(.slice none 0 0),(.slice none 0 0)],.int .i64 n]) (by simp[results,Tryz.results20,go_sem,p0,p1]) rfl ?_
  exact RetTr.none ((yZ HGS.out b_28 _).setCell b_28 _)
 subst hn0
 have hR2:=heap_set ⟨X,1,none⟩ (.slice B3 m3 l3) (heap_set ⟨X,0,none⟩ (.slice A3 n3 k3) HR.out e0) e0
 obtain⟨q0s,q1s,z0s,z1s⟩:=res4 hR2
 have HRS:=uZ hR2
 have hp:=put_meet (W0:=w) HX3.out ⟨_,_,_,rfl⟩ ⟨_,_,_,rfl⟩ (Nat.le_trans GA.out.size HXL.out) HG3.out HT3.out
 have hkk:=heap_setCell_same (w3.setCell ⟨X,0,none⟩ (.slice A3 n3 k3)) X 1 #[.slice A3 n3 k3,.slice Ab t.brs.length cb] 35 (.slice B3 m3 l3) (by have:=heap_setCell_same w3 X 0 #[.slice Ar t.roots.length cr,.slice Ab t.brs.length cb] 35 (.slice A3 n3 k3) HX3.out;simpa using this)
 have HXS:=uZ (show((w3.setCell ⟨X,0,none⟩ (.slice A3 n3 k3)).setCell ⟨X,1,none⟩ (.slice B3 m3 l3)).heap[X]? = some (.cells #[.slice A3 n3 k3,.slice B3 m3 l3] 35 (0,0)) by simpa using hkk)
 obtain⟨rS,bS,hXb,hTS,hGS⟩:=hp
 have hXe:=HXS.out
 rw[hXb] at hXe
 obtain⟨rfl,rfl⟩:rS=.slice A3 n3 k3∧bS=.slice B3 m3 l3:=by simpa using hXe
 have HTS:=uZ hTS
 have HGS:=uZ hGS
 clear hXe hXb hTS hGS hkk hR2
 go_wp2_with fail
 refine(KR2.out b_33 _ _ _ HTS.out).mono ?_
 rintro e w4 ⟨bb,rfl,hbb,g4⟩
 have HX4:=uZ (uK g4 HXS.out)
 have HR4:=uZ (uK g4 HRS.out)
 have HT4:=uZ (HTS.out.mono g4)
 have HG4:=uZ (HGS.out.trans g4)
 have HBB:=uZ hbb
 clear r0 b0 a0 a1 a2 a3 a4 a5 a6 a7 a8 a9 a10 a11 q0 q1 z0 z1 HR x0 x1 z2 z3 q0s q1s z0s z1s g4 hbb HN
 obtain⟨q0,q1,z0,z1⟩:=res4 HR4.out
 obtain⟨x0,x1,-,-⟩:=zt_facts4 HX4.out
 have HR:=HR4
 dsimp only
 cases bb
 ·obtain rfl:=HL.out b_33 (fun h=>by have:=HBB.out.2 h;cases this)
  go_wp2_with fail
  obtain⟨p0,p1⟩:=res_cells (v0:=(.slice none 0 0)) (v1:=(.slice none 0 0)) q0 q1
  refine bodyPost_ret (v:=.tuple #[.agg #[(.slice none 0 0),(.slice none 0 0)],.int .i64 15]) (by simp[results,Tryz.results20,go_sem,p0,p1]) rfl ?_
  exact RetTr.none ((yZ HG4.out b_28 _).setCell b_28 _)
 ·obtain rfl:=HY.out b_33 (HBB.out.1 rfl)
  go_wp2_with fail
  obtain⟨p0,p1⟩:=res_cells (v0:=(.slice A3 n3 k3)) (v1:=(.slice B3 m3 l3)) q0 q1
  refine bodyPost_ret (v:=.tuple #[.agg #[.slice A3 n3 k3,.slice B3 m3 l3],.int .i64 0]) (by simp[results,Tryz.results20,go_sem,p0,p1]) rfl ?_
  exact laidTr HR4.out b_37 HG4.out HT4.out):p:=h
set_option maxRecDepth 100000 in
theorem c_39 {p:Prop} (h:p:=by
 have G2:=uZ (G1.out.trans g2)
 have HG2:=uZ (GA.out.trans G2.out)
 clear r0 b0 a0 a1 a2 a3 a4 a5 a6 a7 a8 a9 a10 a11 q0 q1 z0 z1 HR g2
 obtain⟨⟨r0,b0,a0,a1,a2,a3,a4,a5,a6,a7,a8,a9,a10,a11⟩,hR⟩:=HB.out _ G2.out
 obtain⟨q0,q1,z0,z1⟩:=res4 hR
 have HR:=uZ hR
 clear hR
 dsimp only
 go_wp2_with fail
 obtain⟨p0,p1⟩:=res_cells (v0:=(.slice none 0 0)) (v1:=(.slice none 0 0)) q0 q1
 refine bodyPost_ret (v:=.tuple #[.agg #[(.slice none 0 0),(.slice none 0 0)],.int .i64 1]) (by simp[results,Tryz.results20,go_sem,p0,p1]) rfl ?_
 exact RetTr.none ((yZ HG2.out b_28 _).setCell b_28 _)):p:=h
set_option maxRecDepth 100000 in
theorem c_70 {p:Prop} (h:p:=by
 cases bb
 ·exact absurd (hbb.2 HT1.out) b_36
 ·rfl):p:=h
set_option maxHeartbeats 16000000 in
set_option maxRecDepth 100000 in
theorem refApplyNo1 (t:Tr) (o:Opn) (rv bv:Value) (w:World) (hr:SlI w rv t.roots) (hv:SlBr w bv t.brs) (hf:FewBr t.brs) (hrl:t.roots.length≤1000000) (hm:∀ i (h:i<t.brs.length),t.brs[i].mark.size≤9223372036854775807) (hT:¬ RightT t):Calls Tryz.prog 20 #[.agg #[rv,bv],o.agg] w (RetTr (⟨[],[]⟩,1) w):=by
 have HTT:=uZ (fun W (hW:Grew w W)=>(⟨hr.mono hW,hv.mono hW⟩:TrOk W rv bv t))
 have kR:=fun W (hW:Grew w W)=>refRight19 t.roots t.brs rv bv W (hr.mono hW) (hv.mono hW) hf hrl hm
 clear hm
 have HT1:=uZ hT
 clear hT
 have HBX:=uZ (ref_box w o)
 obtain⟨Ar,cr,rfl,-⟩:=SlI.open_ hr
 obtain⟨Ab,cb,rfl,-⟩:=SlBr.open_ hv
 clear hr hv hf hrl
 obtain⟨i,d,k,u,p,b,l,tt,m,x9,x10,x11⟩:=o
 unfold Opn.agg
 unfold Opn.cells at HBX
 dsimp only at HBX kR ⊢
 have KR:=uZ kR
 clear kR
 have GA:=uZ ((((uX w).alloc (.cells [.slice Ar t.roots.length cr,.slice Ab t.brs.length cb].toArray 35)).alloc (.cells [.int .i64 i,.int .i64 d,.int .i64 k,.int .i64 u,.int .i64 p,.int .i64 b,.int .i64 l,.string tt,.string m,.int .i64 x9,.int .i64 x10,.int .i64 x11].toArray 25)).alloc (.cells [.slice none 0 0,.slice none 0 0].toArray 35))
 have HB:=uZ (fun W g=>HBX.out (.slice Ar t.roots.length cr) (.slice Ab t.brs.length cb) W g)
 clear HBX
 go_enter Tryz.func20,Tryz.ntmps20
 go_wp2_with fail
 generalize ((w.alloc (.cells [.slice Ar t.roots.length cr,.slice Ab t.brs.length cb].toArray 35)).alloc (.cells [.int .i64 i,.int .i64 d,.int .i64 k,.int .i64 u,.int .i64 p,.int .i64 b,.int .i64 l,.string tt,.string m,.int .i64 x9,.int .i64 x10,.int .i64 x11].toArray 25)).alloc (.cells [.slice none 0 0,.slice none 0 0].toArray 35)=WA at GA HB ⊢
 refine(KR.out _ GA.out).mono ?_
 rintro e w1 ⟨bb,rfl,hbb,g1⟩
 obtain rfl:bb=false:=by
  cases bb
  ·rfl
  ·exact absurd (hbb.1 rfl) HT1.out
 have G1:=uZ g1
 have HG1:=uZ (GA.out.trans G1.out)
 clear hbb g1
 obtain⟨⟨r0,b0,a0,a1,a2,a3,a4,a5,a6,a7,a8,a9,a10,a11⟩,hR⟩:=HB.out _ G1.out
 obtain⟨q0,q1,z0,z1⟩:=res4 hR
 have HR:=uZ hR
 clear hR
 dsimp only
 go_wp2_with fail
 obtain⟨p0,p1⟩:=res_cells (v0:=(.slice none 0 0)) (v1:=(.slice none 0 0)) q0 q1
 refine bodyPost_ret (v:=.tuple #[.agg #[(.slice none 0 0),(.slice none 0 0)],.int .i64 1]) (by simp[results,Tryz.results20,go_sem,p0,p1]) rfl ?_
 exact RetTr.none ((yZ HG1.out b_28 _).setCell b_28 _)
set_option maxHeartbeats 16000000 in
set_option maxRecDepth 100000 in
theorem refApplyNo2 (t:Tr) (o:Opn) (rv bv:Value) (w:World) (hr:SlI w rv t.roots) (hv:SlBr w bv t.brs) (hf:FewBr t.brs) (hrl:t.roots.length≤1000000) (hm:∀ i (h:i<t.brs.length),t.brs[i].mark.size≤9223372036854775807) (hom:o.mark.size≤9223372036854775807) (hT:RightT t) (hF:formedO o=false):Calls Tryz.prog 20 #[.agg #[rv,bv],o.agg] w (RetTr (⟨[],[]⟩,1) w):=by
 have HTT:=uZ (fun W (hW:Grew w W)=>(⟨hr.mono hW,hv.mono hW⟩:TrOk W rv bv t))
 have kR:=fun W (hW:Grew w W)=>refRight19 t.roots t.brs rv bv W (hr.mono hW) (hv.mono hW) hf hrl hm
 have kF:=fun W=>refFormed21 o W hom
 rw[if_neg (by rw[hF];decide)] at kF
 clear hm hom hF
 have HT1:=uZ hT
 clear hT
 have HBX:=uZ (ref_box w o)
 obtain⟨Ar,cr,rfl,-⟩:=SlI.open_ hr
 obtain⟨Ab,cb,rfl,-⟩:=SlBr.open_ hv
 clear hr hv hf hrl
 obtain⟨i,d,k,u,p,b,l,tt,m,x9,x10,x11⟩:=o
 unfold Opn.agg
 unfold Opn.cells at HBX
 dsimp only at HBX kR kF ⊢
 have KR:=uZ kR
 have KF:=uZ kF
 clear kR kF
 have GA:=uZ ((((uX w).alloc (.cells [.slice Ar t.roots.length cr,.slice Ab t.brs.length cb].toArray 35)).alloc (.cells [.int .i64 i,.int .i64 d,.int .i64 k,.int .i64 u,.int .i64 p,.int .i64 b,.int .i64 l,.string tt,.string m,.int .i64 x9,.int .i64 x10,.int .i64 x11].toArray 25)).alloc (.cells [.slice none 0 0,.slice none 0 0].toArray 35))
 have HB:=uZ (fun W g=>HBX.out (.slice Ar t.roots.length cr) (.slice Ab t.brs.length cb) W g)
 clear HBX
 go_enter Tryz.func20,Tryz.ntmps20
 go_wp2_with fail
 generalize ((w.alloc (.cells [.slice Ar t.roots.length cr,.slice Ab t.brs.length cb].toArray 35)).alloc (.cells [.int .i64 i,.int .i64 d,.int .i64 k,.int .i64 u,.int .i64 p,.int .i64 b,.int .i64 l,.string tt,.string m,.int .i64 x9,.int .i64 x10,.int .i64 x11].toArray 25)).alloc (.cells [.slice none 0 0,.slice none 0 0].toArray 35)=WA at GA HB ⊢
 refine(KR.out _ GA.out).mono ?_
 rintro e w1 ⟨bb,rfl,hbb,g1⟩
 obtain rfl:bb=true:=by
  exact c_70
 have G1:=uZ g1
 have HG1:=uZ (GA.out.trans G1.out)
 clear hbb g1
 obtain⟨⟨r0,b0,a0,a1,a2,a3,a4,a5,a6,a7,a8,a9,a10,a11⟩,hR⟩:=HB.out _ G1.out
 obtain⟨q0,q1,z0,z1⟩:=res4 hR
 have HR:=uZ hR
 clear hR
 dsimp only
 go_wp2_with fail
 refine(KF.out _).mono ?_
 rintro e w2 ⟨rfl,g2⟩
 exact c_39
set_option maxHeartbeats 16000000 in
set_option maxRecDepth 100000 in
theorem refApplyNo6 (t:Tr) (o:Opn) (rv bv:Value) (w:World) (hr:SlI w rv t.roots) (hv:SlBr w bv t.brs) (hf:FewBr t.brs) (hrl:t.roots.length≤1000000) (hm:∀ i (h:i<t.brs.length),t.brs[i].mark.size≤9223372036854775807) (hom:o.mark.size≤9223372036854775807) (hT:RightT t) (hF:formedO o=true) (h6:o.kind=6):Calls Tryz.prog 20 #[.agg #[rv,bv],o.agg] w (RetTr (⟨[],[]⟩,1) w):=by
 have HTT:=uZ (fun W (hW:Grew w W)=>(⟨hr.mono hW,hv.mono hW⟩:TrOk W rv bv t))
 have kR:=fun W (hW:Grew w W)=>refRight19 t.roots t.brs rv bv W (hr.mono hW) (hv.mono hW) hf hrl hm
 have kF:=fun W=>refFormed21 o W hom
 rw[if_pos hF] at kF
 clear hm hom hF
 have HT1:=uZ hT
 clear hT
 have HBX:=uZ (ref_box w o)
 obtain⟨Ar,cr,rfl,-⟩:=SlI.open_ hr
 obtain⟨Ab,cb,rfl,-⟩:=SlBr.open_ hv
 clear hr hv hf hrl
 obtain⟨i,d,k,u,p,b,l,tt,m,x9,x10,x11⟩:=o
 unfold Opn.agg
 unfold Opn.cells at HBX
 dsimp only at HBX kR kF h6 ⊢
 have KR:=uZ kR
 have KF:=uZ kF
 have H6:=uZ h6
 clear kR kF h6
 have GA:=uZ ((((uX w).alloc (.cells [.slice Ar t.roots.length cr,.slice Ab t.brs.length cb].toArray 35)).alloc (.cells [.int .i64 i,.int .i64 d,.int .i64 k,.int .i64 u,.int .i64 p,.int .i64 b,.int .i64 l,.string tt,.string m,.int .i64 x9,.int .i64 x10,.int .i64 x11].toArray 25)).alloc (.cells [.slice none 0 0,.slice none 0 0].toArray 35))
 have HB:=uZ (fun W g=>HBX.out (.slice Ar t.roots.length cr) (.slice Ab t.brs.length cb) W g)
 clear HBX
 go_enter Tryz.func20,Tryz.ntmps20
 go_wp2_with fail
 generalize ((w.alloc (.cells [.slice Ar t.roots.length cr,.slice Ab t.brs.length cb].toArray 35)).alloc (.cells [.int .i64 i,.int .i64 d,.int .i64 k,.int .i64 u,.int .i64 p,.int .i64 b,.int .i64 l,.string tt,.string m,.int .i64 x9,.int .i64 x10,.int .i64 x11].toArray 25)).alloc (.cells [.slice none 0 0,.slice none 0 0].toArray 35)=WA at GA HB ⊢
 refine(KR.out _ GA.out).mono ?_
 rintro e w1 ⟨bb,rfl,hbb,g1⟩
 obtain rfl:bb=true:=by
  exact c_70
 have G1:=uZ g1
 have HG1:=uZ (GA.out.trans G1.out)
 clear hbb g1
 obtain⟨⟨r0,b0,a0,a1,a2,a3,a4,a5,a6,a7,a8,a9,a10,a11⟩,hR⟩:=HB.out _ G1.out
 obtain⟨q0,q1,z0,z1⟩:=res4 hR
 have HR:=uZ hR
 clear hR
 dsimp only
 go_wp2_with fail
 refine(KF.out _).mono ?_
 rintro e w2 ⟨rfl,g2⟩
 have hk6:(k == 6)=true:=by simpa using H6.out
 exact c_39
set_option maxHeartbeats 16000000 in
set_option maxRecDepth 100000 in
theorem refApplyC (t:Tr) (o:Opn) (rv bv:Value) (w:World) (hr:SlI w rv t.roots) (hv:SlBr w bv t.brs) (hf:FewBr t.brs) (hrl:t.roots.length≤1000000) (hm:∀ i (h:i<t.brs.length),t.brs[i].mark.size≤9223372036854775807) (hom:o.mark.size≤9223372036854775807) (hT:RightT t) (hF:formedO o=true) (hk:o.kind=1) (ST:Tr) (n:Int) (hst:creR t o=(ST,n)) (RES:Tr × Int) (hn:n≠0→RES=(⟨[],[]⟩,n)) (hy:n=0→RightT ST→RES=(ST,0)) (hl:n=0→¬ RightT ST→RES=(⟨[],[]⟩,15)) (hsf:n=0→FewBr ST.brs∧ST.roots.length≤1000000∧∀ i (h:i<ST.brs.length),ST.brs[i].mark.size≤9223372036854775807):Calls Tryz.prog 20 #[.agg #[rv,bv],o.agg] w (RetTr (RES) w):=by
 have HTT:=uZ (fun W (hW:Grew w W)=>(⟨hr.mono hW,hv.mono hW⟩:TrOk W rv bv t))
 have kR:=fun W (hW:Grew w W)=>refRight19 t.roots t.brs rv bv W (hr.mono hW) (hv.mono hW) hf hrl hm
 have kF:=fun W=>refFormed21 o W hom
 rw[if_pos hF] at kF
 have kST:=fun W (hW:Grew w W)=>refCreate t o rv bv W (hr.mono hW) (hv.mono hW) hf hrl hT
 rw[hst] at kST
 have KR2:=uZ (fun(h0:n=0) W rx bx (h:TrOk W rx bx ST)=>refRight19 ST.roots ST.brs rx bx W h.1 h.2 (hsf h0).1 (hsf h0).2.1 (hsf h0).2.2)
 have HN:=uZ hn
 have HY:=uZ hy
 have HL:=uZ hl
 clear hm hom hF hst hn hy hl hsf
 have HT1:=uZ hT
 clear hT
 have HBX:=uZ (ref_box w o)
 obtain⟨Ar,cr,rfl,-⟩:=SlI.open_ hr
 obtain⟨Ab,cb,rfl,-⟩:=SlBr.open_ hv
 clear hr hv hf hrl
 obtain⟨i,d,k,u,p,b,l,tt,m,x9,x10,x11⟩:=o
 unfold Opn.agg
 unfold Opn.cells at HBX
 dsimp only at HBX kR kF kST hk ⊢
 have KR:=uZ kR
 have KF:=uZ kF
 have KST:=uZ kST
 have Hk:=uZ hk
 clear kR kF kST hk
 have GA:=uZ ((((uX w).alloc (.cells [.slice Ar t.roots.length cr,.slice Ab t.brs.length cb].toArray 35)).alloc (.cells [.int .i64 i,.int .i64 d,.int .i64 k,.int .i64 u,.int .i64 p,.int .i64 b,.int .i64 l,.string tt,.string m,.int .i64 x9,.int .i64 x10,.int .i64 x11].toArray 25)).alloc (.cells [.slice none 0 0,.slice none 0 0].toArray 35))
 have HB:=uZ (fun W g=>HBX.out (.slice Ar t.roots.length cr) (.slice Ab t.brs.length cb) W g)
 clear HBX
 go_enter Tryz.func20,Tryz.ntmps20
 go_wp2_with fail
 generalize ((w.alloc (.cells [.slice Ar t.roots.length cr,.slice Ab t.brs.length cb].toArray 35)).alloc (.cells [.int .i64 i,.int .i64 d,.int .i64 k,.int .i64 u,.int .i64 p,.int .i64 b,.int .i64 l,.string tt,.string m,.int .i64 x9,.int .i64 x10,.int .i64 x11].toArray 25)).alloc (.cells [.slice none 0 0,.slice none 0 0].toArray 35)=WA at GA HB ⊢
 refine(KR.out _ GA.out).mono ?_
 rintro e w1 ⟨bb,rfl,hbb,g1⟩
 obtain rfl:bb=true:=by
  exact c_70
 have G1:=uZ g1
 have HG1:=uZ (GA.out.trans G1.out)
 clear hbb g1
 obtain⟨⟨r0,b0,a0,a1,a2,a3,a4,a5,a6,a7,a8,a9,a10,a11⟩,hR⟩:=HB.out _ G1.out
 obtain⟨q0,q1,z0,z1⟩:=res4 hR
 have HR:=uZ hR
 clear hR
 dsimp only
 go_wp2_with fail
 refine(KF.out _).mono ?_
 rintro e w2 ⟨rfl,g2⟩
 have hk6:(k == 6)=false:=by have:=Hk.out;simp only [beq_eq_false_iff_ne];omega
 have hkb1:(k == 1)=true:=by have:=Hk.out;simp only [beq_iff_eq];omega
 exact c_9
set_option maxHeartbeats 16000000 in
set_option maxRecDepth 100000 in
theorem refApplyM (t:Tr) (o:Opn) (rv bv:Value) (w:World) (hr:SlI w rv t.roots) (hv:SlBr w bv t.brs) (hf:FewBr t.brs) (hrl:t.roots.length≤1000000) (hm:∀ i (h:i<t.brs.length),t.brs[i].mark.size≤9223372036854775807) (hom:o.mark.size≤9223372036854775807) (hT:RightT t) (hF:formedO o=true) (hk:o.kind=2) (ST:Tr) (n:Int) (hst:movR t o=(ST,n)) (RES:Tr × Int) (hn:n≠0→RES=(⟨[],[]⟩,n)) (hy:n=0→RightT ST→RES=(ST,0)) (hl:n=0→¬ RightT ST→RES=(⟨[],[]⟩,15)) (hsf:n=0→FewBr ST.brs∧ST.roots.length≤1000000∧∀ i (h:i<ST.brs.length),ST.brs[i].mark.size≤9223372036854775807):Calls Tryz.prog 20 #[.agg #[rv,bv],o.agg] w (RetTr (RES) w):=by
 have HTT:=uZ (fun W (hW:Grew w W)=>(⟨hr.mono hW,hv.mono hW⟩:TrOk W rv bv t))
 have kR:=fun W (hW:Grew w W)=>refRight19 t.roots t.brs rv bv W (hr.mono hW) (hv.mono hW) hf hrl hm
 have kF:=fun W=>refFormed21 o W hom
 rw[if_pos hF] at kF
 have kST:=fun W (hW:Grew w W)=>refMove t o rv bv W (hr.mono hW) (hv.mono hW) hf hrl hT hm
 rw[hst] at kST
 have KR2:=uZ (fun(h0:n=0) W rx bx (h:TrOk W rx bx ST)=>refRight19 ST.roots ST.brs rx bx W h.1 h.2 (hsf h0).1 (hsf h0).2.1 (hsf h0).2.2)
 have HN:=uZ hn
 have HY:=uZ hy
 have HL:=uZ hl
 clear hm hom hF hst hn hy hl hsf
 have HT1:=uZ hT
 clear hT
 have HBX:=uZ (ref_box w o)
 obtain⟨Ar,cr,rfl,-⟩:=SlI.open_ hr
 obtain⟨Ab,cb,rfl,-⟩:=SlBr.open_ hv
 clear hr hv hf hrl
 obtain⟨i,d,k,u,p,b,l,tt,m,x9,x10,x11⟩:=o
 unfold Opn.agg
 unfold Opn.cells at HBX
 dsimp only at HBX kR kF kST hk ⊢
 have KR:=uZ kR
 have KF:=uZ kF
 have KST:=uZ kST
 have Hk:=uZ hk
 clear kR kF kST hk
 have GA:=uZ ((((uX w).alloc (.cells [.slice Ar t.roots.length cr,.slice Ab t.brs.length cb].toArray 35)).alloc (.cells [.int .i64 i,.int .i64 d,.int .i64 k,.int .i64 u,.int .i64 p,.int .i64 b,.int .i64 l,.string tt,.string m,.int .i64 x9,.int .i64 x10,.int .i64 x11].toArray 25)).alloc (.cells [.slice none 0 0,.slice none 0 0].toArray 35))
 have HB:=uZ (fun W g=>HBX.out (.slice Ar t.roots.length cr) (.slice Ab t.brs.length cb) W g)
 clear HBX
 go_enter Tryz.func20,Tryz.ntmps20
 go_wp2_with fail
 generalize ((w.alloc (.cells [.slice Ar t.roots.length cr,.slice Ab t.brs.length cb].toArray 35)).alloc (.cells [.int .i64 i,.int .i64 d,.int .i64 k,.int .i64 u,.int .i64 p,.int .i64 b,.int .i64 l,.string tt,.string m,.int .i64 x9,.int .i64 x10,.int .i64 x11].toArray 25)).alloc (.cells [.slice none 0 0,.slice none 0 0].toArray 35)=WA at GA HB ⊢
 refine(KR.out _ GA.out).mono ?_
 rintro e w1 ⟨bb,rfl,hbb,g1⟩
 obtain rfl:bb=true:=by
  exact c_70
 have G1:=uZ g1
 have HG1:=uZ (GA.out.trans G1.out)
 clear hbb g1
 obtain⟨⟨r0,b0,a0,a1,a2,a3,a4,a5,a6,a7,a8,a9,a10,a11⟩,hR⟩:=HB.out _ G1.out
 obtain⟨q0,q1,z0,z1⟩:=res4 hR
 have HR:=uZ hR
 clear hR
 dsimp only
 go_wp2_with fail
 refine(KF.out _).mono ?_
 rintro e w2 ⟨rfl,g2⟩
 have hk6:(k == 6)=false:=by have:=Hk.out;simp only [beq_eq_false_iff_ne];omega
 have hkb1:(k == 1)=false:=by have:=Hk.out;simp only [beq_eq_false_iff_ne];omega
 have hkb2:(k == 2)=true:=by have:=Hk.out;simp only [beq_iff_eq];omega
 exact c_9
set_option maxHeartbeats 16000000 in
set_option maxRecDepth 100000 in
theorem refApplyR (t:Tr) (o:Opn) (rv bv:Value) (w:World) (hr:SlI w rv t.roots) (hv:SlBr w bv t.brs) (hf:FewBr t.brs) (hrl:t.roots.length≤1000000) (hm:∀ i (h:i<t.brs.length),t.brs[i].mark.size≤9223372036854775807) (hom:o.mark.size≤9223372036854775807) (hT:RightT t) (hF:formedO o=true) (hk:o.kind=5) (ST:Tr) (n:Int) (hst:remR t o=(ST,n)) (RES:Tr × Int) (hn:n≠0→RES=(⟨[],[]⟩,n)) (hy:n=0→RightT ST→RES=(ST,0)) (hl:n=0→¬ RightT ST→RES=(⟨[],[]⟩,15)) (hsf:n=0→FewBr ST.brs∧ST.roots.length≤1000000∧∀ i (h:i<ST.brs.length),ST.brs[i].mark.size≤9223372036854775807):Calls Tryz.prog 20 #[.agg #[rv,bv],o.agg] w (RetTr (RES) w):=by
 have HTT:=uZ (fun W (hW:Grew w W)=>(⟨hr.mono hW,hv.mono hW⟩:TrOk W rv bv t))
 have kR:=fun W (hW:Grew w W)=>refRight19 t.roots t.brs rv bv W (hr.mono hW) (hv.mono hW) hf hrl hm
 have kF:=fun W=>refFormed21 o W hom
 rw[if_pos hF] at kF
 have kST:=fun W (hW:Grew w W)=>refRemove t o rv bv W (hr.mono hW) (hv.mono hW) hf hrl hT
 rw[hst] at kST
 have KR2:=uZ (fun(h0:n=0) W rx bx (h:TrOk W rx bx ST)=>refRight19 ST.roots ST.brs rx bx W h.1 h.2 (hsf h0).1 (hsf h0).2.1 (hsf h0).2.2)
 have HN:=uZ hn
 have HY:=uZ hy
 have HL:=uZ hl
 clear hm hom hF hst hn hy hl hsf
 have HT1:=uZ hT
 clear hT
 have HBX:=uZ (ref_box w o)
 obtain⟨Ar,cr,rfl,-⟩:=SlI.open_ hr
 obtain⟨Ab,cb,rfl,-⟩:=SlBr.open_ hv
 clear hr hv hf hrl
 obtain⟨i,d,k,u,p,b,l,tt,m,x9,x10,x11⟩:=o
 unfold Opn.agg
 unfold Opn.cells at HBX
 dsimp only at HBX kR kF kST hk ⊢
 have KR:=uZ kR
 have KF:=uZ kF
 have KST:=uZ kST
 have Hk:=uZ hk
 clear kR kF kST hk
 have GA:=uZ ((((uX w).alloc (.cells [.slice Ar t.roots.length cr,.slice Ab t.brs.length cb].toArray 35)).alloc (.cells [.int .i64 i,.int .i64 d,.int .i64 k,.int .i64 u,.int .i64 p,.int .i64 b,.int .i64 l,.string tt,.string m,.int .i64 x9,.int .i64 x10,.int .i64 x11].toArray 25)).alloc (.cells [.slice none 0 0,.slice none 0 0].toArray 35))
 have HB:=uZ (fun W g=>HBX.out (.slice Ar t.roots.length cr) (.slice Ab t.brs.length cb) W g)
 clear HBX
 go_enter Tryz.func20,Tryz.ntmps20
 go_wp2_with fail
 generalize ((w.alloc (.cells [.slice Ar t.roots.length cr,.slice Ab t.brs.length cb].toArray 35)).alloc (.cells [.int .i64 i,.int .i64 d,.int .i64 k,.int .i64 u,.int .i64 p,.int .i64 b,.int .i64 l,.string tt,.string m,.int .i64 x9,.int .i64 x10,.int .i64 x11].toArray 25)).alloc (.cells [.slice none 0 0,.slice none 0 0].toArray 35)=WA at GA HB ⊢
 refine(KR.out _ GA.out).mono ?_
 rintro e w1 ⟨bb,rfl,hbb,g1⟩
 obtain rfl:bb=true:=by
  exact c_70
 have G1:=uZ g1
 have HG1:=uZ (GA.out.trans G1.out)
 clear hbb g1
 obtain⟨⟨r0,b0,a0,a1,a2,a3,a4,a5,a6,a7,a8,a9,a10,a11⟩,hR⟩:=HB.out _ G1.out
 obtain⟨q0,q1,z0,z1⟩:=res4 hR
 have HR:=uZ hR
 clear hR
 dsimp only
 go_wp2_with fail
 refine(KF.out _).mono ?_
 rintro e w2 ⟨rfl,g2⟩
 have hk6:(k == 6)=false:=by have:=Hk.out;simp only [beq_eq_false_iff_ne];omega
 have hkb1:(k == 1)=false:=by have:=Hk.out;simp only [beq_eq_false_iff_ne];omega
 have hkb2:(k == 2)=false:=by have:=Hk.out;simp only [beq_eq_false_iff_ne];omega
 have hkb5:(k == 5)=true:=by have:=Hk.out;simp only [beq_iff_eq];omega
 exact c_9
set_option maxHeartbeats 16000000 in
set_option maxRecDepth 100000 in
theorem refApplyL (t:Tr) (o:Opn) (rv bv:Value) (w:World) (hr:SlI w rv t.roots) (hv:SlBr w bv t.brs) (hf:FewBr t.brs) (hrl:t.roots.length≤1000000) (hm:∀ i (h:i<t.brs.length),t.brs[i].mark.size≤9223372036854775807) (hom:o.mark.size≤9223372036854775807) (hT:RightT t) (hF:formedO o=true) (hk:o.kind=3∨o.kind=4) (ST:Tr) (n:Int) (hst:labR t o=(ST,n)) (RES:Tr × Int) (hn:n≠0→RES=(⟨[],[]⟩,n)) (hy:n=0→RightT ST→RES=(ST,0)) (hl:n=0→¬ RightT ST→RES=(⟨[],[]⟩,15)) (hsf:n=0→FewBr ST.brs∧ST.roots.length≤1000000∧∀ i (h:i<ST.brs.length),ST.brs[i].mark.size≤9223372036854775807):Calls Tryz.prog 20 #[.agg #[rv,bv],o.agg] w (RetTr (RES) w):=by
 have HTT:=uZ (fun W (hW:Grew w W)=>(⟨hr.mono hW,hv.mono hW⟩:TrOk W rv bv t))
 have kR:=fun W (hW:Grew w W)=>refRight19 t.roots t.brs rv bv W (hr.mono hW) (hv.mono hW) hf hrl hm
 have kF:=fun W=>refFormed21 o W hom
 rw[if_pos hF] at kF
 have kST:=fun W (hW:Grew w W)=>refLabel t o rv bv W (hr.mono hW) (hv.mono hW) hf hrl hT
 rw[hst] at kST
 have KR2:=uZ (fun(h0:n=0) W rx bx (h:TrOk W rx bx ST)=>refRight19 ST.roots ST.brs rx bx W h.1 h.2 (hsf h0).1 (hsf h0).2.1 (hsf h0).2.2)
 have HN:=uZ hn
 have HY:=uZ hy
 have HL:=uZ hl
 clear hm hom hF hst hn hy hl hsf
 have HT1:=uZ hT
 clear hT
 have HBX:=uZ (ref_box w o)
 obtain⟨Ar,cr,rfl,-⟩:=SlI.open_ hr
 obtain⟨Ab,cb,rfl,-⟩:=SlBr.open_ hv
 clear hr hv hf hrl
 obtain⟨i,d,k,u,p,b,l,tt,m,x9,x10,x11⟩:=o
 unfold Opn.agg
 unfold Opn.cells at HBX
 dsimp only at HBX kR kF kST hk ⊢
 have KR:=uZ kR
 have KF:=uZ kF
 have KST:=uZ kST
 have Hk:=uZ hk
 clear kR kF kST hk
 have GA:=uZ ((((uX w).alloc (.cells [.slice Ar t.roots.length cr,.slice Ab t.brs.length cb].toArray 35)).alloc (.cells [.int .i64 i,.int .i64 d,.int .i64 k,.int .i64 u,.int .i64 p,.int .i64 b,.int .i64 l,.string tt,.string m,.int .i64 x9,.int .i64 x10,.int .i64 x11].toArray 25)).alloc (.cells [.slice none 0 0,.slice none 0 0].toArray 35))
 have HB:=uZ (fun W g=>HBX.out (.slice Ar t.roots.length cr) (.slice Ab t.brs.length cb) W g)
 clear HBX
 go_enter Tryz.func20,Tryz.ntmps20
 go_wp2_with fail
 generalize ((w.alloc (.cells [.slice Ar t.roots.length cr,.slice Ab t.brs.length cb].toArray 35)).alloc (.cells [.int .i64 i,.int .i64 d,.int .i64 k,.int .i64 u,.int .i64 p,.int .i64 b,.int .i64 l,.string tt,.string m,.int .i64 x9,.int .i64 x10,.int .i64 x11].toArray 25)).alloc (.cells [.slice none 0 0,.slice none 0 0].toArray 35)=WA at GA HB ⊢
 refine(KR.out _ GA.out).mono ?_
 rintro e w1 ⟨bb,rfl,hbb,g1⟩
 obtain rfl:bb=true:=by
  exact c_70
 have G1:=uZ g1
 have HG1:=uZ (GA.out.trans G1.out)
 clear hbb g1
 obtain⟨⟨r0,b0,a0,a1,a2,a3,a4,a5,a6,a7,a8,a9,a10,a11⟩,hR⟩:=HB.out _ G1.out
 obtain⟨q0,q1,z0,z1⟩:=res4 hR
 have HR:=uZ hR
 clear hR
 dsimp only
 go_wp2_with fail
 refine(KF.out _).mono ?_
 rintro e w2 ⟨rfl,g2⟩
 have hk6:(k == 6)=false:=by have:=Hk.out;simp only [beq_eq_false_iff_ne];omega
 have hkb1:(k == 1)=false:=by have:=Hk.out;simp only [beq_eq_false_iff_ne];omega
 have hkb2:(k == 2)=false:=by have:=Hk.out;simp only [beq_eq_false_iff_ne];omega
 have hkb5:(k == 5)=false:=by have:=Hk.out;simp only [beq_eq_false_iff_ne];omega
 exact c_9
end Go.Proofs.YtafncfomiolmgaaGreatDoor
namespace Go.Proofs.YtafncfomiolmgaaGreatDoor
open Go.RowKit
theorem sound_few {t:Tr} (hs:SoundM t):FewBr t.brs∧t.roots.length≤1000000:=by
 have hl:=hs.len
 refine⟨⟨by omega,fun i hi=>?_⟩,?_⟩
 ·have:=kids_few (hs.kids _ (List.getElem_mem hi))
  omega
 ·have:=kids_few hs.roots
  omega
theorem refApply (t:Tr) (o:Opn) (rv bv:Value) (w:World) (hr:SlI w rv t.roots) (hv:SlBr w bv t.brs) (hf:FewBr t.brs) (hrl:t.roots.length≤1000000) (hm:∀ b∈t.brs,b.mark.size≤100) (hom:o.mark.size≤100) :
  Calls Tryz.prog 20 #[.agg #[rv,bv],o.agg] w (RetTr (applyR t o) w):=by
 have hm1:∀ i (h:i<t.brs.length),t.brs[i].mark.size≤9223372036854775807:=fun i h=>Nat.le_trans (hm _ (List.getElem_mem h)) b_36
 have hom1:o.mark.size≤9223372036854775807:=Nat.le_trans hom b_36
 by_cases hT:RightT t
 rotate_left
 ·have:applyR t o=(⟨[],[]⟩,1):=by
   unfold applyR
   rw[if_pos (.inl hT)]
  rw[this]
  exact refApplyNo1 t o rv bv w hr hv hf hrl hm1 hT
 cases hF:formedO o with
 | false =>
  have:applyR t o=(⟨[],[]⟩,1):=by
   unfold applyR
   rw[if_pos (.inr (.inl hF))]
  rw[this]
  exact refApplyNo2 t o rv bv w hr hv hf hrl hm1 hom1 hT hF
 | true =>
  by_cases h6:o.kind=6
  ·have:applyR t o=(⟨[],[]⟩,1):=by
    unfold applyR
    rw[if_pos (.inr (.inr h6))]
   rw[this]
   exact refApplyNo6 t o rv bv w hr hv hf hrl hm1 hom1 hT hF h6
  ·have hst:=stepT_is (t:=t) hF h6
   obtain⟨ST,n,hSn⟩:∃ ST n,(ST,n)=stepT t o:=⟨_,_,rfl⟩
   have hno:¬ (¬ RightT t∨formedO o=false∨o.kind=6):=by
    rintro (h|h|h)
    ·exact h hT
    ·rw[hF] at h
     cases h
    ·exact h6 h
   have hsplit:(faultO t o≠0→n=faultO t o)∧(faultO t o=0→n=0∧ST=newT t o):=by
    refine⟨fun h=>?_,fun h=>?_⟩
    ·rw[hst,if_neg h] at hSn
     exact(Prod.mk.inj hSn).2
    ·rw[hst,if_pos h] at hSn
     exact⟨(Prod.mk.inj hSn).2,(Prod.mk.inj hSn).1⟩
   have h0:n=0→faultO t o=0:=fun h=>Classical.byContradiction fun h2=>h2 (by rw[← hsplit.1 h2];exact h)
   have hn:n≠0→applyR t o=(⟨[],[]⟩,n):=fun h=>by
    have hf0:faultO t o≠0:=fun h2=>h (hsplit.2 h2).1
    unfold applyR
    rw[if_neg hno,if_pos hf0,hsplit.1 hf0]
   have hy:n=0→RightT ST→applyR t o=(ST,0):=fun h h2=>by
    have hf0:=h0 h
    rw[(hsplit.2 hf0).2] at h2 ⊢
    unfold applyR
    rw[if_neg hno,if_neg (fun k=>k hf0),if_pos h2]
   have hl:n=0→¬ RightT ST→applyR t o=(⟨[],[]⟩,15):=fun h h2=>by
    have hf0:=h0 h
    rw[(hsplit.2 hf0).2] at h2
    unfold applyR
    rw[if_neg hno,if_neg (fun k=>k hf0),if_neg h2]
   have hsf:n=0→FewBr ST.brs∧ST.roots.length≤1000000∧∀ i (h:i<ST.brs.length),ST.brs[i].mark.size≤9223372036854775807:=fun h=>by
    have hf0:=h0 h
    rw[(hsplit.2 hf0).2]
    have hs:=sound_few (newT_sound (right_sound hT) hF h6 hf0)
    exact⟨hs.1,hs.2,marks_at (newT_marks (n:=100) hm hom) b_36⟩
   unfold stepT at hSn
   rcases kind_of hF h6 with h|h|h|h|h
   ·rw[if_pos h] at hSn
    exact refApplyC t o rv bv w hr hv hf hrl hm1 hom1 hT hF h ST n hSn.symm _ hn hy hl hsf
   ·rw[if_neg b_37,if_pos h] at hSn
    exact refApplyM t o rv bv w hr hv hf hrl hm1 hom1 hT hF h ST n hSn.symm _ hn hy hl hsf
   ·rw[if_neg b_37,if_neg b_37,if_neg b_37] at hSn
    exact refApplyL t o rv bv w hr hv hf hrl hm1 hom1 hT hF (.inl h) ST n hSn.symm _ hn hy hl hsf
   ·rw[if_neg b_37,if_neg b_37,if_neg b_37] at hSn
    exact refApplyL t o rv bv w hr hv hf hrl hm1 hom1 hT hF (.inr h) ST n hSn.symm _ hn hy hl hsf
   ·rw[if_neg b_37,if_neg b_37,if_pos h] at hSn
    exact refApplyR t o rv bv w hr hv hf hrl hm1 hom1 hT hF h ST n hSn.symm _ hn hy hl hsf
end Go.Proofs.YtafncfomiolmgaaGreatDoor