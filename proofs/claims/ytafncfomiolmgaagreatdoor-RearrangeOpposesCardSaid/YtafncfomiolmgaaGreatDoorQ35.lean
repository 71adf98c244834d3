/- Lemmas on what the functions of the program and of the library compute: Rf11, Rf12S. The conditions stand at each. -/
import Derived.Test.YtafncfomiolmgaaGreatDoorQ34
import Derived.Deep.CutRange
import Derived.Deep.RegionHeld3
namespace Go.Proofs.YtafncfomiolmgaaGreatDoor
open Go.RowKit
set_option maxRecDepth 100000 in
theorem c_7 {p:Prop} (h:p:=by
 refine(KB.out _ HG2.out).mono ?_
 rintro e w3 ⟨v3,rfl,hv3,g3⟩
 have G3:=uZ (G2.out.trans g3)
 have HG3:=uZ (GA.out.trans G3.out)
 have HU3:=uZ (uK g3 HU2.out)
 have HV3:=uZ hv3
 clear r0 b0 a0 a1 a2 a3 a4 a5 a6 a7 a8 a9 a10 a11 q0 q1 z0 z1 HR g3 hv3 KB KF KG
 obtain⟨⟨r0,b0,a0,a1,a2,a3,a4,a5,a6,a7,a8,a9,a10,a11⟩,hR⟩:=HB.out _ G3.out
 obtain⟨q0,q1,z0,z1⟩:=res4 hR
 have HR:=uZ hR
 clear hR
 dsimp only
 go_wp2_with fail
 refine(KH.out _ _ HV3.out).mono ?_
 rintro e w4 ⟨rfl,rfl⟩
 dsimp only
 obtain⟨u0,u1,u2,-⟩:=unit_cells HU3.out
 go_wp2_with fail
 refine(KL.out _ HG3.out).mono ?_
 rintro e w5 ⟨rfl,g5⟩
 have G5:=uZ (G3.out.trans g5)
 have HG5:=uZ (GA.out.trans G5.out)
 have HU5:=uZ (uK g5 HU3.out)
 clear r0 b0 a0 a1 a2 a3 a4 a5 a6 a7 a8 a9 a10 a11 q0 q1 z0 z1 HR g5 u0 u1 u2 KH KL HV3
 have HS:=uZ (show _∧_ from⟨(HB.out w5 G5.out).1,(unit_cells HU5.out).2.1⟩)
 dsimp only
 go_wp2_with fail
 go_cut [13] from 62 to 73 (fun s13 wx=>SetCut w5 (T1) s13 wx)
 case first =>
  as_aux_lemma =>
  go_region_held3 (fun W=>(W.cell? ⟨w.heap.size,0,none⟩=some (.slice Ar t.roots.length cr)∧W.cell? ⟨w.heap.size,1,none⟩=some (.slice Ab t.brs.length cb)∧W.cell? ⟨w.heap.size+1,0,none⟩=some (.int .i64 i)∧W.cell? ⟨w.heap.size+1,1,none⟩=some (.int .i64 d)∧W.cell? ⟨w.heap.size+1,2,none⟩=some (.int .i64 k)∧W.cell? ⟨w.heap.size+1,3,none⟩=some (.int .i64 u)∧W.cell? ⟨w.heap.size+1,4,none⟩=some (.int .i64 p)∧W.cell? ⟨w.heap.size+1,5,none⟩=some (.int .i64 b)∧W.cell? ⟨w.heap.size+1,6,none⟩=some (.int .i64 l)∧W.cell? ⟨w.heap.size+1,7,none⟩=some (.string tt)∧W.cell? ⟨w.heap.size+1,8,none⟩=some (.string m)∧W.cell? ⟨w.heap.size+1,9,none⟩=some (.int .i64 x9)∧W.cell? ⟨w.heap.size+1,10,none⟩=some (.int .i64 x10)∧W.cell? ⟨w.heap.size+1,11,none⟩=some (.int .i64 x11))∧W.cell? ⟨BU,1,none⟩=some (.int .i64 fp)) (exact s14_grow HS.out b_2) (first|(go_at_call 98;refine(Kcp.out _ (HG5.out.trans b_22)).mono ?_;rintro e wq1 ⟨vq1,rfl,hvq1,gq1,-⟩;have GQ1:=uZ (show Grew w5 wq1 from uY b_22 gq1);(first|have Na1:=uZ (show Grew (w5.alloc (.cells [.slice none 0 0,.slice none 0 0].toArray 35)) wq1 from uY (uX _).drew gq1)|have Na1:=uZ (show Grew (w5.alloc (.cells [.slice none 0 0,.slice none 0 0].toArray 35)) wq1 from uY (uX _) gq1)|skip);have HVq1:=uZ hvq1;clear hvq1;clear gq1)|(go_at_call 104;refine(Kwo.out _ _ (SlI.mono HVq1.out b_22)).mono ?_;rintro e wq2 ⟨vq2,rfl,hoq2,gq2⟩;have GQ2:=uZ (show Grew w5 wq2 from uY b_13 gq2);have GL2:=uZ (show Grew wq1 wq2 from uY b_22 gq2);(first|have Na2:=uZ (show Grew (wq1.alloc (.cells [.slice none 0 0,.slice none 0 0].toArray 35)) wq2 from uY (uX _).drew gq2)|have Na2:=uZ (show Grew (wq1.alloc (.cells [.slice none 0 0,.slice none 0 0].toArray 35)) wq2 from uY (uX _) gq2)|skip);have HVq2:=uZ (show SlI wq2 vq2 KW from Rd.of_own hoq2);clear hoq2;clear gq2)|(go_at_call 101;refine(Kst.out _ _ (HG5.out.trans b_14) (SlI.mono HVq2.out b_22)).mono ?_;rintro e wq3 ⟨rq3,bq3,rfl,htq3,gq3⟩;have GQ3:=uZ (show Grew w5 wq3 from uY b_10 gq3);have GL3:=uZ (show Grew wq2 wq3 from uY b_22 gq3);(first|have Na3:=uZ (show Grew (wq2.alloc (.cells [.slice none 0 0,.slice none 0 0].toArray 35)) wq3 from uY (uX _).drew gq3)|have Na3:=uZ (show Grew (wq2.alloc (.cells [.slice none 0 0,.slice none 0 0].toArray 35)) wq3 from uY (uX _) gq3)|skip);(try have Pq1:=uK (((Na1.out).trans GL2.out).trans GL3.out) (heap_allocE (a:=w5) (p:=(.cells [.slice none 0 0,.slice none 0 0].toArray 35)) rfl));(try have pq10:=(zt_facts Pq1).1);(try have pq11:=(zt_facts Pq1).2.1);(try have pq12:=(zt_facts Pq1).2.2.1);(try have pq13:=(zt_facts Pq1).2.2.2);(try have Pq2:=uK ((Na2.out).trans GL3.out) (heap_allocE (a:=wq1) (p:=(.cells [.slice none 0 0,.slice none 0 0].toArray 35)) rfl));(try have pq20:=(zt_facts Pq2).1);(try have pq21:=(zt_facts Pq2).2.1);(try have pq22:=(zt_facts Pq2).2.2.1);(try have pq23:=(zt_facts Pq2).2.2.2);(try have Pq3:=uK (Na3.out) (heap_allocE (a:=wq2) (p:=(.cells [.slice none 0 0,.slice none 0 0].toArray 35)) rfl));(try have pq30:=(zt_facts Pq3).1);(try have pq31:=(zt_facts Pq3).2.1);(try have pq32:=(zt_facts Pq3).2.2.1);(try have pq33:=(zt_facts Pq3).2.2.2);obtain⟨⟨Aq3,nq3,kq3,rfl⟩,Bq3,mq3,lq3,rfl⟩:=slices2 htq3;have HTq3:=uZ htq3;clear htq3;clear gq3))
  all_goals go_wp2_with fail
  all_goals go_meet
  all_goals first|exact set_meet2 GQ3.out HTq3.out|exact set_meet Pq1 (Nat.le_refl _) GQ3.out HTq3.out|exact set_meet Pq2 GQ1.out.size GQ3.out HTq3.out|exact set_meet Pq3 GQ2.out.size GQ3.out HTq3.out
 case rest =>
  skip
  obtain⟨X,rvS,bvS,rfl,hX,hlo,hT,hgC⟩:=hcut
  obtain⟨wD,hwD⟩:∃ wD,wD=wc:=⟨_,rfl⟩
  subst hwD
  have HT:=uZ hT
  have GD:=uZ (G5.out.trans hgC)
  have HGD:=uZ (HG5.out.trans hgC)
  have G5D:=uZ hgC
  obtain⟨⟨A4,n4,k4,rfl⟩,B4,m4,l4,rfl⟩:=slices2 hT
  have HX:=uZ hX
  have HXL:=uZ hlo
  clear hT hgC hX hlo HS Kcp Kwo Kst
  obtain⟨⟨r0,b0,a0,a1,a2,a3,a4,a5,a6,a7,a8,a9,a10,a11⟩,hR⟩:=HB.out _ GD.out
  obtain⟨q0,q1,z0,z1⟩:=res4 hR
  have HR:=uZ hR
  clear hR
  obtain⟨x0,x1,-,-⟩:=zt_facts4 HX.out
  go_wp2_with fail
  refine(Kc2.out _ _ _ HT.out).mono ?_
  rintro e w6 ⟨v6,rfl,hv6,g6,-⟩
  have HV6:=uZ hv6
  have G56:=uZ (G5D.out.trans g6)
  have G6:=uZ (G5.out.trans G56.out)
  have HG6:=uZ (GA.out.trans G6.out)
  replace HX:=uZ (uK g6 HX.out)
  replace HT:=uZ (HT.out.mono g6)
  clear r0 b0 a0 a1 a2 a3 a4 a5 a6 a7 a8 a9 a10 a11 q0 q1 z0 z1 HR x0 x1 g6 hv6 Kc2
  obtain⟨⟨r0,b0,a0,a1,a2,a3,a4,a5,a6,a7,a8,a9,a10,a11⟩,hR⟩:=HB.out _ G6.out
  obtain⟨q0,q1,z0,z1⟩:=res4 hR
  have HR:=uZ hR
  clear hR
  dsimp only
  have hbb:(b != 0)=true:=by simpa using Hb0.out
  go_wp2_with fail
  refine(Kh2.out _ _ HV6.out).mono ?_
  rintro e w7 ⟨rfl,rfl⟩
  dsimp only
  go_wp2_with fail
  obtain⟨p0,p1⟩:=res_cells (v0:=(.slice Ar t.roots.length cr)) (v1:=(.slice Ab t.brs.length cb)) q0 q1
  refine bodyPost_ret (v:=.tuple #[.agg #[.slice Ar t.roots.length cr,.slice Ab t.brs.length cb],.int .i64 7]) b_26 rfl ?_
  exact laidTr HR.out b_37 HG6.out (HTT.out _ HG6.out)):p:=h
set_option maxHeartbeats 16000000 in
set_option maxRecDepth 100000 in
theorem refMoveBefS (t:Tr) (o:Opn) (rv bv:Value) (w:World) (hr:SlI w rv t.roots) (hv:SlBr w bv t.brs) (hf:FewBr t.brs) (hrl:t.roots.length≤1000000) (hT:RightT t) (hm:∀ i (h:i<t.brs.length),t.brs[i].mark.size≤9223372036854775807) {fb:Br} (ho:brFind t.brs o.unit=some fb) {pq:Br} (hp:brFind t.brs o.parent=some pq) (hc:o.parent∉belowT t o.unit) (hl:levR t o.parent fb.level=0) (hb0:o.before≠0) (hnb:o.before∉childs (takeR t o fb) o.parent):Calls Tryz.prog 57 #[.agg #[rv,bv],o.agg] w (RetTr (t,7) w):=by
 have HTT:=uZ (fun W (hW:Grew w W)=>(⟨hr.mono hW,hv.mono hW⟩:TrOk W rv bv t))
 have kF:=fun W (hW:Grew w W)=>refFind19 t.brs o.unit rv bv W (hv.mono hW)
 rw[ho] at kF
 unfold TFindEnd at kF
 dsimp only [Option.getD_some,Option.isSome_some] at kF
 have hin:=find_in ho
 have kG:=fun W (hW:Grew w W)=>refFind19 t.brs o.parent rv bv W (hv.mono hW)
 rw[hp] at kG
 unfold TFindEnd at kG
 dsimp only [Option.getD_some,Option.isSome_some] at kG
 have kB:=fun W (hW:Grew w W)=>refBelow t.roots t.brs o.unit rv bv W (hr.mono hW) (hv.mono hW) hf hrl hm
 rw[show belowR ⟨t.roots,t.brs⟩ o.unit=_ from belowR_there hT (.inr ⟨fb,hin.1,hin.2⟩)] at kB
 clear hin
 have kH:=fun v W h=>ref21Has (belowT t o.unit) o.parent v W h
 rw[decide_eq_false hc] at kH
 have kL:=fun W (hW:Grew w W)=>lev21 t o.parent fb.level rv bv W (hr.mono hW) (hv.mono hW)
 rw[hl] at kL
 have kcp:=fun W (hW:Grew w W)=>refChildren t.roots t.brs fb.parent rv bv W (hr.mono hW) (hv.mono hW) hf hrl
 rw[show childs ⟨t.roots,t.brs⟩ fb.parent=childs t fb.parent from rfl] at kcp
 have hkl:=childs_few hf hrl fb.parent
 have kwo:=fun v W (h:SlI W v (childs t fb.parent))=>ref21Without (childs t fb.parent) o.unit v W h hkl
 have kst:=fun kv W (hW:Grew w W) (h:SlI W kv (withoutF o.unit (childs t fb.parent)))=>ref21Set t fb.parent (withoutF o.unit (childs t fb.parent)) rv bv kv W (hr.mono hW) (hv.mono hW) hf hrl h
 rw[show setG t fb.parent (withoutF o.unit (childs t fb.parent))=takeR t o fb from rfl] at kst
 have hf1:=takeR_few (o:=o) (fb:=fb) hf hrl
 have kc2:=fun rx bx W (h:TrOk W rx bx (takeR t o fb))=>refChildren (takeR t o fb).roots (takeR t o fb).brs o.parent rx bx W h.1 h.2 hf1.1 hf1.2
 rw[show childs ⟨(takeR t o fb).roots,(takeR t o fb).brs⟩ o.parent=childs (takeR t o fb) o.parent from rfl] at kc2
 have kh2:=fun v W h=>ref21Has (childs (takeR t o fb) o.parent) o.before v W h
 rw[decide_eq_false hnb] at kh2
 clear hnb
 clear hf1 hkl hc hl ho hT hm hp
 generalize takeR t o fb=T1 at *
 generalize childs T1 o.parent=KS at *
 generalize withoutF o.unit (childs t fb.parent)=KW at *
 generalize childs t fb.parent=KP at *
 generalize belowT t o.unit=BL at *
 have HBX:=uZ (ref_box w o)
 obtain⟨Ar,cr,rfl,-⟩:=SlI.open_ hr
 obtain⟨Ab,cb,rfl,-⟩:=SlBr.open_ hv
 clear hr hv hf hrl
 obtain⟨i,d,k,u,p,b,l,tt,m,x9,x10,x11⟩:=o
 obtain⟨fi,fp,fl,ft,fm,fk⟩:=fb
 unfold Opn.agg
 unfold Opn.cells at HBX
 dsimp only at HBX kF kG kB kH kL kcp kwo kst kc2 kh2 hb0 ⊢
 have KF:=uZ kF
 have KG:=uZ kG
 have KB:=uZ kB
 have KH:=uZ kH
 have KL:=uZ kL
 have Kcp:=uZ kcp
 have Kwo:=uZ kwo
 have Kst:=uZ kst
 have Kc2:=uZ kc2
 have Kh2:=uZ kh2
 have Hb0:=uZ hb0
 clear kF kG kB kH kL kcp kwo kst kc2 kh2 hb0
 have GA:=uZ ((((uX w).alloc (.cells [.slice Ar t.roots.length cr,.slice Ab t.brs.length cb].toArray 35)).alloc (.cells [.int .i64 i,.int .i64 d,.int .i64 k,.int .i64 u,.int .i64 p,.int .i64 b,.int .i64 l,.string tt,.string m,.int .i64 x9,.int .i64 x10,.int .i64 x11].toArray 25)).alloc (.cells [.slice none 0 0,.slice none 0 0].toArray 35))
 have HB:=uZ (fun W g=>HBX.out (.slice Ar t.roots.length cr) (.slice Ab t.brs.length cb) W g)
 clear HBX
 go_enter Tryz.func57,Tryz.ntmps57
 go_wp2_with fail
 generalize ((w.alloc (.cells [.slice Ar t.roots.length cr,.slice Ab t.brs.length cb].toArray 35)).alloc (.cells [.int .i64 i,.int .i64 d,.int .i64 k,.int .i64 u,.int .i64 p,.int .i64 b,.int .i64 l,.string tt,.string m,.int .i64 x9,.int .i64 x10,.int .i64 x11].toArray 25)).alloc (.cells [.slice none 0 0,.slice none 0 0].toArray 35)=WA at GA HB ⊢
 obtain⟨pi,pp,pl,pt,pm,pk⟩:=pq
 refine(KF.out _ GA.out).mono ?_
 rintro e w1 ⟨rfl,g1⟩
 have G1:=uZ (g1.alloc (.cells #[.int .i64 fi,.int .i64 fp,.int .i64 fl,.string ft,.string fm] 51))
 have HG1:=uZ (GA.out.trans G1.out)
 have HBU:=uZ (heap_allocE (a:=w1) (p:=(.cells #[.int .i64 fi,.int .i64 fp,.int .i64 fl,.string ft,.string fm] 51)) rfl)
 obtain⟨⟨r0,b0,a0,a1,a2,a3,a4,a5,a6,a7,a8,a9,a10,a11⟩,hR⟩:=HB.out _ G1.out
 obtain⟨q0,q1,z0,z1⟩:=res4 hR
 have HR:=uZ hR
 clear hR
 have HBL:=uZ g1.size
 clear g1
 dsimp only
 go_wp2_with fail
 refine(KG.out _ HG1.out).mono ?_
 rintro e w2 ⟨rfl,g2⟩
 have G2:=uZ ((G1.out.trans g2).alloc (.cells #[.int .i64 pi,.int .i64 pp,.int .i64 pl,.string pt,.string pm] 51))
 have HG2:=uZ (GA.out.trans G2.out)
 have HU2:=uZ (uK (g2.alloc (.cells #[.int .i64 pi,.int .i64 pp,.int .i64 pl,.string pt,.string pm] 51)) HBU.out)
 clear r0 b0 a0 a1 a2 a3 a4 a5 a6 a7 a8 a9 a10 a11 q0 q1 z0 z1 HR g2 HBU
 obtain⟨⟨r0,b0,a0,a1,a2,a3,a4,a5,a6,a7,a8,a9,a10,a11⟩,hR⟩:=HB.out _ G2.out
 obtain⟨q0,q1,z0,z1⟩:=res4 hR
 have HR:=uZ hR
 clear hR
 generalize w1.heap.size=BU at HU2 HBL ⊢
 dsimp only
 go_wp2_with fail
 generalize w2.alloc (.cells #[.int .i64 pi,.int .i64 pp,.int .i64 pl,.string pt,.string pm] 51)=wY at G2 HG2 HU2 r0 b0 a0 a1 a2 a3 a4 a5 a6 a7 a8 a9 a10 a11 q0 q1 z0 z1 HR ⊢
 exact c_7
set_option maxHeartbeats 16000000 in
set_option maxRecDepth 100000 in
theorem refMoveBefZ (t:Tr) (o:Opn) (rv bv:Value) (w:World) (hr:SlI w rv t.roots) (hv:SlBr w bv t.brs) (hf:FewBr t.brs) (hrl:t.roots.length≤1000000) (hT:RightT t) (hm:∀ i (h:i<t.brs.length),t.brs[i].mark.size≤9223372036854775807) {fb:Br} (ho:brFind t.brs o.unit=some fb) (hp:o.parent=0) (hn:brFind t.brs o.parent=none) (hc:o.parent∉belowT t o.unit) (hl:levR t o.parent fb.level=0) (hb0:o.before≠0) (hnb:o.before∉childs (takeR t o fb) o.parent):Calls Tryz.prog 57 #[.agg #[rv,bv],o.agg] w (RetTr (t,7) w):=by
 have HTT:=uZ (fun W (hW:Grew w W)=>(⟨hr.mono hW,hv.mono hW⟩:TrOk W rv bv t))
 have kF:=fun W (hW:Grew w W)=>refFind19 t.brs o.unit rv bv W (hv.mono hW)
 rw[ho] at kF
 unfold TFindEnd at kF
 dsimp only [Option.getD_some,Option.isSome_some] at kF
 have hin:=find_in ho
 have kG:=fun W (hW:Grew w W)=>refFind19 t.brs o.parent rv bv W (hv.mono hW)
 rw[hn] at kG
 unfold TFindEnd at kG
 dsimp only [Option.getD_none,Option.isSome_none,br0] at kG
 have kB:=fun W (hW:Grew w W)=>refBelow t.roots t.brs o.unit rv bv W (hr.mono hW) (hv.mono hW) hf hrl hm
 rw[show belowR ⟨t.roots,t.brs⟩ o.unit=_ from belowR_there hT (.inr ⟨fb,hin.1,hin.2⟩)] at kB
 clear hin
 have kH:=fun v W h=>ref21Has (belowT t o.unit) o.parent v W h
 rw[decide_eq_false hc] at kH
 have kL:=fun W (hW:Grew w W)=>lev21 t o.parent fb.level rv bv W (hr.mono hW) (hv.mono hW)
 rw[hl] at kL
 have kcp:=fun W (hW:Grew w W)=>refChildren t.roots t.brs fb.parent rv bv W (hr.mono hW) (hv.mono hW) hf hrl
 rw[show childs ⟨t.roots,t.brs⟩ fb.parent=childs t fb.parent from rfl] at kcp
 have hkl:=childs_few hf hrl fb.parent
 have kwo:=fun v W (h:SlI W v (childs t fb.parent))=>ref21Without (childs t fb.parent) o.unit v W h hkl
 have kst:=fun kv W (hW:Grew w W) (h:SlI W kv (withoutF o.unit (childs t fb.parent)))=>ref21Set t fb.parent (withoutF o.unit (childs t fb.parent)) rv bv kv W (hr.mono hW) (hv.mono hW) hf hrl h
 rw[show setG t fb.parent (withoutF o.unit (childs t fb.parent))=takeR t o fb from rfl] at kst
 have hf1:=takeR_few (o:=o) (fb:=fb) hf hrl
 have kc2:=fun rx bx W (h:TrOk W rx bx (takeR t o fb))=>refChildren (takeR t o fb).roots (takeR t o fb).brs o.parent rx bx W h.1 h.2 hf1.1 hf1.2
 rw[show childs ⟨(takeR t o fb).roots,(takeR t o fb).brs⟩ o.parent=childs (takeR t o fb) o.parent from rfl] at kc2
 have kh2:=fun v W h=>ref21Has (childs (takeR t o fb) o.parent) o.before v W h
 rw[decide_eq_false hnb] at kh2
 clear hnb
 clear hf1 hkl hc hl ho hT hm hn
 generalize takeR t o fb=T1 at *
 generalize childs T1 o.parent=KS at *
 generalize withoutF o.unit (childs t fb.parent)=KW at *
 generalize childs t fb.parent=KP at *
 generalize belowT t o.unit=BL at *
 have HBX:=uZ (ref_box w o)
 obtain⟨Ar,cr,rfl,-⟩:=SlI.open_ hr
 obtain⟨Ab,cb,rfl,-⟩:=SlBr.open_ hv
 clear hr hv hf hrl
 obtain⟨i,d,k,u,p,b,l,tt,m,x9,x10,x11⟩:=o
 obtain⟨fi,fp,fl,ft,fm,fk⟩:=fb
 unfold Opn.agg
 unfold Opn.cells at HBX
 dsimp only at HBX kF kG kB hp kH kL kcp kwo kst kc2 kh2 hb0 ⊢
 have KF:=uZ kF
 have KG:=uZ kG
 have KB:=uZ kB
 have Hp:=uZ hp
 have KH:=uZ kH
 have KL:=uZ kL
 have Kcp:=uZ kcp
 have Kwo:=uZ kwo
 have Kst:=uZ kst
 have Kc2:=uZ kc2
 have Kh2:=uZ kh2
 have Hb0:=uZ hb0
 clear kF kG kB hp kH kL kcp kwo kst kc2 kh2 hb0
 have GA:=uZ ((((uX w).alloc (.cells [.slice Ar t.roots.length cr,.slice Ab t.brs.length cb].toArray 35)).alloc (.cells [.int .i64 i,.int .i64 d,.int .i64 k,.int .i64 u,.int .i64 p,.int .i64 b,.int .i64 l,.string tt,.string m,.int .i64 x9,.int .i64 x10,.int .i64 x11].toArray 25)).alloc (.cells [.slice none 0 0,.slice none 0 0].toArray 35))
 have HB:=uZ (fun W g=>HBX.out (.slice Ar t.roots.length cr) (.slice Ab t.brs.length cb) W g)
 clear HBX
 go_enter Tryz.func57,Tryz.ntmps57
 go_wp2_with fail
 generalize ((w.alloc (.cells [.slice Ar t.roots.length cr,.slice Ab t.brs.length cb].toArray 35)).alloc (.cells [.int .i64 i,.int .i64 d,.int .i64 k,.int .i64 u,.int .i64 p,.int .i64 b,.int .i64 l,.string tt,.string m,.int .i64 x9,.int .i64 x10,.int .i64 x11].toArray 25)).alloc (.cells [.slice none 0 0,.slice none 0 0].toArray 35)=WA at GA HB ⊢
 refine(KF.out _ GA.out).mono ?_
 rintro e w1 ⟨rfl,g1⟩
 have G1:=uZ (g1.alloc (.cells #[.int .i64 fi,.int .i64 fp,.int .i64 fl,.string ft,.string fm] 51))
 have HG1:=uZ (GA.out.trans G1.out)
 have HBU:=uZ (heap_allocE (a:=w1) (p:=(.cells #[.int .i64 fi,.int .i64 fp,.int .i64 fl,.string ft,.string fm] 51)) rfl)
 obtain⟨⟨r0,b0,a0,a1,a2,a3,a4,a5,a6,a7,a8,a9,a10,a11⟩,hR⟩:=HB.out _ G1.out
 obtain⟨q0,q1,z0,z1⟩:=res4 hR
 have HR:=uZ hR
 clear hR
 have HBL:=uZ g1.size
 clear g1
 dsimp only
 have hpb:(p != 0)=false:=by simpa using Hp.out
 go_wp2_with fail
 refine(KG.out _ HG1.out).mono ?_
 rintro e w2 ⟨rfl,g2⟩
 have G2:=uZ ((G1.out.trans g2).alloc (.cells #[.int .i64 0,.int .i64 0,.int .i64 0,.string ⟨#[]⟩,.string ⟨#[]⟩] 51))
 have HG2:=uZ (GA.out.trans G2.out)
 have HU2:=uZ (uK (g2.alloc (.cells #[.int .i64 0,.int .i64 0,.int .i64 0,.string ⟨#[]⟩,.string ⟨#[]⟩] 51)) HBU.out)
 clear r0 b0 a0 a1 a2 a3 a4 a5 a6 a7 a8 a9 a10 a11 q0 q1 z0 z1 HR g2 HBU
 obtain⟨⟨r0,b0,a0,a1,a2,a3,a4,a5,a6,a7,a8,a9,a10,a11⟩,hR⟩:=HB.out _ G2.out
 obtain⟨q0,q1,z0,z1⟩:=res4 hR
 have HR:=uZ hR
 clear hR
 generalize w1.heap.size=BU at HU2 HBL ⊢
 dsimp only
 go_wp2_with fail
 generalize w2.alloc (.cells #[.int .i64 0,.int .i64 0,.int .i64 0,.string ⟨#[]⟩,.string ⟨#[]⟩] 51)=wY at G2 HG2 HU2 r0 b0 a0 a1 a2 a3 a4 a5 a6 a7 a8 a9 a10 a11 q0 q1 z0 z1 HR ⊢
 exact c_7
end Go.Proofs.YtafncfomiolmgaaGreatDoor
namespace Go.Proofs.YtafncfomiolmgaaGreatDoor
open Go.RowKit
set_option maxRecDepth 100000 in
theorem c_2 {p:Prop} (h:p:=by
 refine(KB.out _ HG2.out).mono ?_
 rintro e w3 ⟨v3,rfl,hv3,g3⟩
 have G3:=uZ (G2.out.trans g3)
 have HG3:=uZ (GA.out.trans G3.out)
 have HU3:=uZ (uK g3 HU2.out)
 have HV3:=uZ hv3
 clear r0 b0 a0 a1 a2 a3 a4 a5 a6 a7 a8 a9 a10 a11 q0 q1 z0 z1 HR g3 hv3 KB KF KG
 obtain⟨⟨r0,b0,a0,a1,a2,a3,a4,a5,a6,a7,a8,a9,a10,a11⟩,hR⟩:=HB.out _ G3.out
 obtain⟨q0,q1,z0,z1⟩:=res4 hR
 have HR:=uZ hR
 clear hR
 dsimp only
 go_wp2_with fail
 refine(KH.out _ _ HV3.out).mono ?_
 rintro e w4 ⟨rfl,rfl⟩
 dsimp only
 obtain⟨u0,u1,u2,-⟩:=unit_cells HU3.out
 go_wp2_with fail
 refine(KL.out _ HG3.out).mono ?_
 rintro e w5 ⟨rfl,g5⟩
 have G5:=uZ (G3.out.trans g5)
 have HG5:=uZ (GA.out.trans G5.out)
 have HU5:=uZ (uK g5 HU3.out)
 clear r0 b0 a0 a1 a2 a3 a4 a5 a6 a7 a8 a9 a10 a11 q0 q1 z0 z1 HR g5 u0 u1 u2 KH KL HV3
 have HS:=uZ (show _∧_ from⟨(HB.out w5 G5.out).1,(unit_cells HU5.out).2.1⟩)
 dsimp only
 go_wp2_with fail
 go_cut [13] from 62 to 73 (fun s13 wx=>SetCut w5 (T1) s13 wx)
 case first =>
  as_aux_lemma =>
  go_region_held3 (fun W=>(W.cell? ⟨w.heap.size,0,none⟩=some (.slice Ar t.roots.length cr)∧W.cell? ⟨w.heap.size,1,none⟩=some (.slice Ab t.brs.length cb)∧W.cell? ⟨w.heap.size+1,0,none⟩=some (.int .i64 i)∧W.cell? ⟨w.heap.size+1,1,none⟩=some (.int .i64 d)∧W.cell? ⟨w.heap.size+1,2,none⟩=some (.int .i64 k)∧W.cell? ⟨w.heap.size+1,3,none⟩=some (.int .i64 u)∧W.cell? ⟨w.heap.size+1,4,none⟩=some (.int .i64 p)∧W.cell? ⟨w.heap.size+1,5,none⟩=some (.int .i64 b)∧W.cell? ⟨w.heap.size+1,6,none⟩=some (.int .i64 l)∧W.cell? ⟨w.heap.size+1,7,none⟩=some (.string tt)∧W.cell? ⟨w.heap.size+1,8,none⟩=some (.string m)∧W.cell? ⟨w.heap.size+1,9,none⟩=some (.int .i64 x9)∧W.cell? ⟨w.heap.size+1,10,none⟩=some (.int .i64 x10)∧W.cell? ⟨w.heap.size+1,11,none⟩=some (.int .i64 x11))∧W.cell? ⟨BU,1,none⟩=some (.int .i64 fp)) (exact s14_grow HS.out b_2) (first|(go_at_call 98;refine(Kcp.out _ (HG5.out.trans b_22)).mono ?_;rintro e wq1 ⟨vq1,rfl,hvq1,gq1,-⟩;have GQ1:=uZ (show Grew w5 wq1 from uY b_22 gq1);(first|have Na1:=uZ (show Grew (w5.alloc (.cells [.slice none 0 0,.slice none 0 0].toArray 35)) wq1 from uY (uX _).drew gq1)|have Na1:=uZ (show Grew (w5.alloc (.cells [.slice none 0 0,.slice none 0 0].toArray 35)) wq1 from uY (uX _) gq1)|skip);have HVq1:=uZ hvq1;clear hvq1;clear gq1)|(go_at_call 104;refine(Kwo.out _ _ (SlI.mono HVq1.out b_22)).mono ?_;rintro e wq2 ⟨vq2,rfl,hoq2,gq2⟩;have GQ2:=uZ (show Grew w5 wq2 from uY b_13 gq2);have GL2:=uZ (show Grew wq1 wq2 from uY b_22 gq2);(first|have Na2:=uZ (show Grew (wq1.alloc (.cells [.slice none 0 0,.slice none 0 0].toArray 35)) wq2 from uY (uX _).drew gq2)|have Na2:=uZ (show Grew (wq1.alloc (.cells [.slice none 0 0,.slice none 0 0].toArray 35)) wq2 from uY (uX _) gq2)|skip);have HVq2:=uZ (show SlI wq2 vq2 KW from Rd.of_own hoq2);clear hoq2;clear gq2)|(go_at_call 101;refine(Kst.out _ _ (HG5.out.trans b_14) (SlI.mono HVq2.out b_22)).mono ?_;rintro e wq3 ⟨rq3,bq3,rfl,htq3,gq3⟩;have GQ3:=uZ (show Grew w5 wq3 from uY b_10 gq3);have GL3:=uZ (show Grew wq2 wq3 from uY b_22 gq3);(first|have Na3:=uZ (show Grew (wq2.alloc (.cells [.slice none 0 0,.slice none 0 0].toArray 35)) wq3 from uY (uX _).drew gq3)|have Na3:=uZ (show Grew (wq2.alloc (.cells [.slice none 0 0,.slice none 0 0].toArray 35)) wq3 from uY (uX _) gq3)|skip);(try have Pq1:=uK (((Na1.out).trans GL2.out).trans GL3.out) (heap_allocE (a:=w5) (p:=(.cells [.slice none 0 0,.slice none 0 0].toArray 35)) rfl));(try have pq10:=(zt_facts Pq1).1);(try have pq11:=(zt_facts Pq1).2.1);(try have pq12:=(zt_facts Pq1).2.2.1);(try have pq13:=(zt_facts Pq1).2.2.2);(try have Pq2:=uK ((Na2.out).trans GL3.out) (heap_allocE (a:=wq1) (p:=(.cells [.slice none 0 0,.slice none 0 0].toArray 35)) rfl));(try have pq20:=(zt_facts Pq2).1);(try have pq21:=(zt_facts Pq2).2.1);(try have pq22:=(zt_facts Pq2).2.2.1);(try have pq23:=(zt_facts Pq2).2.2.2);(try have Pq3:=uK (Na3.out) (heap_allocE (a:=wq2) (p:=(.cells [.slice none 0 0,.slice none 0 0].toArray 35)) rfl));(try have pq30:=(zt_facts Pq3).1);(try have pq31:=(zt_facts Pq3).2.1);(try have pq32:=(zt_facts Pq3).2.2.1);(try have pq33:=(zt_facts Pq3).2.2.2);obtain⟨⟨Aq3,nq3,kq3,rfl⟩,Bq3,mq3,lq3,rfl⟩:=slices2 htq3;have HTq3:=uZ htq3;clear htq3;clear gq3))
  all_goals go_wp2_with fail
  all_goals go_meet
  all_goals first|exact set_meet2 GQ3.out HTq3.out|exact set_meet Pq1 (Nat.le_refl _) GQ3.out HTq3.out|exact set_meet Pq2 GQ1.out.size GQ3.out HTq3.out|exact set_meet Pq3 GQ2.out.size GQ3.out HTq3.out
 case rest =>
  skip
  obtain⟨X,rvS,bvS,rfl,hX,hlo,hT,hgC⟩:=hcut
  obtain⟨wD,hwD⟩:∃ wD,wD=wc:=⟨_,rfl⟩
  subst hwD
  have HT:=uZ hT
  have GD:=uZ (G5.out.trans hgC)
  have HGD:=uZ (HG5.out.trans hgC)
  have G5D:=uZ hgC
  obtain⟨⟨A4,n4,k4,rfl⟩,B4,m4,l4,rfl⟩:=slices2 hT
  have HX:=uZ hX
  have HXL:=uZ hlo
  clear hT hgC hX hlo HS Kcp Kwo Kst
  obtain⟨⟨r0,b0,a0,a1,a2,a3,a4,a5,a6,a7,a8,a9,a10,a11⟩,hR⟩:=HB.out _ GD.out
  obtain⟨q0,q1,z0,z1⟩:=res4 hR
  have HR:=uZ hR
  clear hR
  obtain⟨x0,x1,-,-⟩:=zt_facts4 HX.out
  go_wp2_with fail
  refine(Kc2.out _ _ _ HT.out).mono ?_
  rintro e w6 ⟨v6,rfl,hv6,g6,-⟩
  have HV6:=uZ hv6
  have G56:=uZ (G5D.out.trans g6)
  have G6:=uZ (G5.out.trans G56.out)
  have HG6:=uZ (GA.out.trans G6.out)
  replace HX:=uZ (uK g6 HX.out)
  replace HT:=uZ (HT.out.mono g6)
  clear r0 b0 a0 a1 a2 a3 a4 a5 a6 a7 a8 a9 a10 a11 q0 q1 z0 z1 HR x0 x1 g6 hv6 Kc2
  obtain⟨⟨r0,b0,a0,a1,a2,a3,a4,a5,a6,a7,a8,a9,a10,a11⟩,hR⟩:=HB.out _ G6.out
  obtain⟨q0,q1,z0,z1⟩:=res4 hR
  have HR:=uZ hR
  clear hR
  dsimp only
  have hbb:(b != 0)=true:=by simpa using Hbz.out
  have hX0:=HX.out
  obtain⟨x0,x1,-,-⟩:=zt_facts4 hX0
  clear hX0
  go_wp2_with fail
  refine(Kh2.out _ _ HV6.out).mono ?_
  rintro e w7 ⟨rfl,rfl⟩
  dsimp only
  go_wp2_with fail
  clear r0 b0 a0 a1 a2 a6 a7 a8 a9 a10 a11 q0 q1 z0 z1
  replace x0:=uQ ((uX w6).drew) x0
  replace x1:=uQ ((uX w6).drew) x1
  replace a3:=uQ ((uX w6).drew) a3
  replace a4:=uQ ((uX w6).drew) a4
  replace a5:=uQ ((uX w6).drew) a5
  have HXn:RowKit.Hid (X<w6.heap.size):=uZ ((Array.getElem?_eq_some_iff.1 HX.out).1)
  go_cut [] from 88 to 98 (fun wx=>∃ r b,wx.heap[X]? = some (.cells #[r,b] 35 (0,0))∧TrLo w6.heap.size wx r b T2∧Grew w5 wx)
  case first =>
   refine wp_region_held_drew (S:=(fun W=>W.cell? ⟨w.heap.size+1,3,none⟩=some (.int .i64 u)∧W.cell? ⟨w.heap.size+1,4,none⟩=some (.int .i64 p)∧W.cell? ⟨w.heap.size+1,5,none⟩=some (.int .i64 b))) (by kernel_rfl) ⟨a3,a4,a5⟩ (fun hHeld=>?_)
   refine wpAnyH_take (i:=1) (v:=?_) rfl (by kernel_rfl) (by kernel_rfl) (by kernel_rfl) (fun _ _ _ h=>h) (Or.inl ⟨by rfl,?_⟩) b_35 ?_
   rotate_left
   ((intro w hSw;(try dsimp only at hSw);go_simp);(try with_reducible rfl))
   try simp only [Act.put,List.setIfInBounds_toArray]
   refine wpAnyH_take (i:=2) (v:=?_) rfl (by kernel_rfl) (by kernel_rfl) (by kernel_rfl) (fun _ _ _ h=>h) (Or.inl ⟨by rfl,?_⟩) b_35 ?_
   rotate_left
   ((intro w hSw;(try dsimp only at hSw);go_simp);(try with_reducible rfl))
   try simp only [Act.put]
   refine wpAnyH_take (i:=3) (v:=?_) rfl (by kernel_rfl) (by kernel_rfl) (by kernel_rfl) (fun _ _ _ h=>h) (Or.inl ⟨by rfl,?_⟩) b_35 ?_
   rotate_left
   ((intro w hSw;(try dsimp only at hSw);go_simp);(try with_reducible rfl))
   try simp only [Act.put]
   refine wpAnyH_take (i:=4) (v:=?_) rfl (by kernel_rfl) (by kernel_rfl) (by kernel_rfl) (fun _ _ _ h=>h) (Or.inl ⟨by rfl,?_⟩) b_35 ?_
   rotate_left
   ((intro w hSw;(try dsimp only at hSw);go_simp);(try with_reducible rfl))
   try simp only [Act.put]
   refine wpAnyH_take (i:=5) (v:=?_) rfl (by kernel_rfl) (by kernel_rfl) (by kernel_rfl) (fun _ _ _ h=>h) (Or.inl ⟨by rfl,?_⟩) b_35 ?_
   rotate_left
   ((intro w hSw;(try dsimp only at hSw);go_simp);(try with_reducible rfl))
   try simp only [Act.put]
   refine wpAnyH_take (i:=6) (v:=?_) rfl (by kernel_rfl) (by kernel_rfl) (by kernel_rfl) (fun _ _ _ h=>h) (Or.inl ⟨by rfl,?_⟩) b_35 ?_
   rotate_left
   ((intro w hSw;(try dsimp only at hSw);go_simp);(try with_reducible rfl))
   try simp only [Act.put]
   refine wpAnyH_take (i:=7) (v:=?_) rfl (by kernel_rfl) (by kernel_rfl) (by kernel_rfl) (fun _ _ _ h=>h) (Or.inl ⟨by rfl,?_⟩) b_35 ?_
   rotate_left
   ((intro w hSw;(try dsimp only at hSw);go_simp);(try with_reducible rfl))
   try simp only [Act.put]
   have HXO:=uZ (show X≠w.heap.size+1 from fun e=>by have h1:w5.heap.size≤X:=HXL.out;have h2:=(Array.getElem?_eq_some_iff.1 (HB.out w5 G5.out).2).1;omega)
   refine wpAnyH_ready (rs:=[0,8]) (by kernel_rfl) b_38 ?_
   refine AllReadyH.cons rfl (fun K hK=>?_) ?_
   ·go_simp
    refine hK.out _ _ ⟨a3,a4,a5⟩ (fun hHeld=>?_)
    clear hK K
    try simp only [Act.put,List.setIfInBounds_toArray,List.set_cons_zero,List.set_cons_succ]
    refine wpAnyH_ready (rs:=[8]) (by kernel_rfl) b_38 ?_
    refine AllReadyH.cons rfl (fun K hK=>?_) AllReadyH.nil
    go_simp
    (go_at_call 102;refine(Kpu.out _ _ (SlI.mono HV6.out b_22)).mono ?_;rintro e w8 ⟨v8,rfl,ho8,g8⟩;have G8:=uZ (show Grew w6 w8 from uY b_22 g8);have HV8:=uZ (show SlI w8 v8 PUT from Rd.of_own ho8);have HB8:=uZ (show ∀ k,blk v8=some k→w6.heap.size≤k from fun k hk=>(ho8.lt k (blk_own hk)).1);have y0:=uQ g8 x0;have y1:=uQ g8 x1;have HS8:=uZ (three_grow ⟨a3,a4,a5⟩ g8);clear ho8 g8;dsimp only)
    refine hK.out _ _ HS8.out (fun hHeld=>?_)
    clear hK K
    try simp only [Act.put,List.setIfInBounds_toArray,List.set_cons_zero,List.set_cons_succ]
    refine wpAnyH_ready (rs:=[9]) (by kernel_rfl) b_38 ?_
    refine AllReadyH.cons rfl (fun K hK=>?_) AllReadyH.nil
    go_simp
    (go_at_call 101;refine(Kst2.out w6.heap.size _ _ _ _ (HT.out.mono b_17) (SlI.mono HV8.out b_22) (Grew.size b_17) HB8.out).mono ?_;rintro e w9 ⟨r9,b9,rfl,ht9,g9⟩;obtain⟨⟨A9,n9,k9,rfl⟩,B9,m9,l9,rfl⟩:=slices2 ht9.ok;have HT9:=uZ ht9;have G9:=uZ (show Grew w6 w9 from uY b_17 g9);have HX9:=uZ (uK G9.out HX.out);obtain⟨t0,t1,t2,t3⟩:=zt_facts4 HX9.out;have HS9:=uZ (three_grow HS8.out g9);clear ht9 g9;dsimp only)
    refine hK.out _ _ HS9.out (fun hHeld=>?_)
    clear hK K
    try simp only [Act.put,List.setIfInBounds_toArray,List.set_cons_zero,List.set_cons_succ]
    refine wpAnyH_ready (rs:=[10]) (by kernel_rfl) b_38 ?_
    refine AllReadyH.cons rfl (fun K hK=>?_) AllReadyH.nil
    go_simp
    refine hK.out _ _ (three_set HXO.out HS9.out) (fun hHeld=>?_)
    clear hK K
    try simp only [Act.put,List.setIfInBounds_toArray,List.set_cons_zero,List.set_cons_succ]
    refine wpAnyH_done (by kernel_rfl) ?_ _
    go_wp2_with fail
    go_meet
    exact put_meetL HX9.out HXL.out HXn.out (G56.out.trans G9.out) HT9.out
   refine AllReadyH.cons rfl (fun K hK=>?_) AllReadyH.nil
   ·go_simp
    (go_at_call 102;refine(Kpu.out _ _ (SlI.mono HV6.out b_22)).mono ?_;rintro e w8 ⟨v8,rfl,ho8,g8⟩;have G8:=uZ (show Grew w6 w8 from uY b_22 g8);have HV8:=uZ (show SlI w8 v8 PUT from Rd.of_own ho8);have HB8:=uZ (show ∀ k,blk v8=some k→w6.heap.size≤k from fun k hk=>(ho8.lt k (blk_own hk)).1);have y0:=uQ g8 x0;have y1:=uQ g8 x1;have HS8:=uZ (three_grow ⟨a3,a4,a5⟩ g8);clear ho8 g8;dsimp only)
    refine hK.out _ _ HS8.out (fun hHeld=>?_)
    clear hK K
    try simp only [Act.put,List.setIfInBounds_toArray,List.set_cons_zero,List.set_cons_succ]
    refine wpAnyH_ready (rs:=[0]) (by kernel_rfl) b_38 ?_
    refine AllReadyH.cons rfl (fun K hK=>?_) AllReadyH.nil
    go_simp
    refine hK.out _ _ HS8.out (fun hHeld=>?_)
    clear hK K
    try simp only [Act.put,List.setIfInBounds_toArray,List.set_cons_zero,List.set_cons_succ]
    refine wpAnyH_ready (rs:=[9]) (by kernel_rfl) b_38 ?_
    refine AllReadyH.cons rfl (fun K hK=>?_) AllReadyH.nil
    go_simp
    (go_at_call 101;refine(Kst2.out w6.heap.size _ _ _ _ (HT.out.mono b_17) (SlI.mono HV8.out b_22) (Grew.size b_17) HB8.out).mono ?_;rintro e w9 ⟨r9,b9,rfl,ht9,g9⟩;obtain⟨⟨A9,n9,k9,rfl⟩,B9,m9,l9,rfl⟩:=slices2 ht9.ok;have HT9:=uZ ht9;have G9:=uZ (show Grew w6 w9 from uY b_17 g9);have HX9:=uZ (uK G9.out HX.out);obtain⟨t0,t1,t2,t3⟩:=zt_facts4 HX9.out;have HS9:=uZ (three_grow HS8.out g9);clear ht9 g9;dsimp only)
    refine hK.out _ _ HS9.out (fun hHeld=>?_)
    clear hK K
    try simp only [Act.put,List.setIfInBounds_toArray,List.set_cons_zero,List.set_cons_succ]
    refine wpAnyH_ready (rs:=[10]) (by kernel_rfl) b_38 ?_
    refine AllReadyH.cons rfl (fun K hK=>?_) AllReadyH.nil
    go_simp
    refine hK.out _ _ (three_set HXO.out HS9.out) (fun hHeld=>?_)
    clear hK K
    try simp only [Act.put,List.setIfInBounds_toArray,List.set_cons_zero,List.set_cons_succ]
    refine wpAnyH_done (by kernel_rfl) ?_ _
    go_wp2_with fail
    go_meet
    exact put_meetL HX9.out HXL.out HXn.out (G56.out.trans G9.out) HT9.out
  case rest =>
   skip
   obtain⟨rvT,bvT,hXT,hLT,hGT⟩:=hcut
   obtain⟨⟨AT,nT,kT,rfl⟩,BT,mT,lT,rfl⟩:=slices2 hLT.ok
   have HLT:=uZ hLT
   have G7:=uZ (G5.out.trans hGT)
   have HG7:=uZ (GA.out.trans G7.out)
   obtain⟨t0,t1,-,-⟩:=zt_facts4 hXT
   have hUT:=uK hGT HU5.out
   obtain⟨u0,u1,u2,u3,u4⟩:=unit_cells hUT
   have f1:=frz_of hUT 1
   have hb5:=(Array.getElem?_eq_some_iff.1 HU5.out).1
   have hb6:=G56.out.size
   have hXl:=HXL.out
   have hbl:=HBL.out
   have HBn:=uZ (show BU<w6.heap.size by omega)
   have hWA:=(Array.getElem?_eq_some_iff.1 (HB.out WA (uX _)).2).1
   have e0:¬ X=BU:=by omega
   have e1:¬ w.heap.size+1=BU:=by omega
   clear hXT hLT hGT hUT hb5 hb6 hXl hbl hWA a3 a4 a5 x0 x1
   obtain⟨⟨r0,b0,a0,a1,a2,a3,a4,a5,a6,a7,a8,a9,a10,a11⟩,hR⟩:=HB.out _ G7.out
   obtain⟨q0,q1,z0,z1⟩:=res4 hR
   have HR:=uZ hR
   clear hR
   go_wp2_with fail
   refine(Kch.out _ _ _ _ _ _ _ _ (HLT.out.set ⟨BU,1,none⟩ _ HBn.out).ok).mono ?_
   rintro e wN ⟨rvN,bvN,rfl,htN,gN⟩
   obtain⟨⟨AN,nN,kN,rfl⟩,BN,mN,lN,rfl⟩:=slices2 htN
   have HTN:=uZ htN
   have GN:=uZ ((G7.out.setCell (p:=⟨BU,1,none⟩) HBL.out (.int .i64 p)).trans gN)
   have HGN:=uZ (GA.out.trans GN.out)
   clear r0 b0 a0 a1 a2 a3 a4 a5 a6 a7 a8 a9 a10 a11 q0 q1 z0 z1 HR htN gN t0 t1 u0 u1 u2 u3 u4 f1 e0 e1
   obtain⟨⟨r0,b0,a0,a1,a2,a3,a4,a5,a6,a7,a8,a9,a10,a11⟩,hR⟩:=HB.out _ GN.out
   obtain⟨q0,q1,z0,z1⟩:=res4 hR
   have HR:=uZ hR
   clear hR
   dsimp only
   go_wp2_with fail
   obtain⟨p0,p1⟩:=res_cells (v0:=(.slice AN nN kN)) (v1:=(.slice BN mN lN)) q0 q1
   refine bodyPost_ret (v:=.tuple #[.agg #[.slice AN nN kN,.slice BN mN lN],.int .i64 0]) b_26 rfl ?_
   exact laidTr HR.out b_37 HGN.out HTN.out):p:=h
set_option maxRecDepth 100000 in
theorem c_3 {p:Prop} (h:p:=by
 refine(KB.out _ HG2.out).mono ?_
 rintro e w3 ⟨v3,rfl,hv3,g3⟩
 have G3:=uZ (G2.out.trans g3)
 have HG3:=uZ (GA.out.trans G3.out)
 have HU3:=uZ (uK g3 HU2.out)
 have HV3:=uZ hv3
 clear r0 b0 a0 a1 a2 a3 a4 a5 a6 a7 a8 a9 a10 a11 q0 q1 z0 z1 HR g3 hv3 KB KF KG
 obtain⟨⟨r0,b0,a0,a1,a2,a3,a4,a5,a6,a7,a8,a9,a10,a11⟩,hR⟩:=HB.out _ G3.out
 obtain⟨q0,q1,z0,z1⟩:=res4 hR
 have HR:=uZ hR
 clear hR
 dsimp only
 go_wp2_with fail
 refine(KH.out _ _ HV3.out).mono ?_
 rintro e w4 ⟨rfl,rfl⟩
 dsimp only
 obtain⟨u0,u1,u2,-⟩:=unit_cells HU3.out
 go_wp2_with fail
 refine(KL.out _ HG3.out).mono ?_
 rintro e w5 ⟨rfl,g5⟩
 have G5:=uZ (G3.out.trans g5)
 have HG5:=uZ (GA.out.trans G5.out)
 have HU5:=uZ (uK g5 HU3.out)
 clear r0 b0 a0 a1 a2 a3 a4 a5 a6 a7 a8 a9 a10 a11 q0 q1 z0 z1 HR g5 u0 u1 u2 KH KL HV3
 have HS:=uZ (show _∧_ from⟨(HB.out w5 G5.out).1,(unit_cells HU5.out).2.1⟩)
 dsimp only
 go_wp2_with fail
 go_cut [13] from 62 to 73 (fun s13 wx=>SetCut w5 (T1) s13 wx)
 case first =>
  as_aux_lemma =>
  go_region_held3 (fun W=>(W.cell? ⟨w.heap.size,0,none⟩=some (.slice Ar t.roots.length cr)∧W.cell? ⟨w.heap.size,1,none⟩=some (.slice Ab t.brs.length cb)∧W.cell? ⟨w.heap.size+1,0,none⟩=some (.int .i64 i)∧W.cell? ⟨w.heap.size+1,1,none⟩=some (.int .i64 d)∧W.cell? ⟨w.heap.size+1,2,none⟩=some (.int .i64 k)∧W.cell? ⟨w.heap.size+1,3,none⟩=some (.int .i64 u)∧W.cell? ⟨w.heap.size+1,4,none⟩=some (.int .i64 p)∧W.cell? ⟨w.heap.size+1,5,none⟩=some (.int .i64 b)∧W.cell? ⟨w.heap.size+1,6,none⟩=some (.int .i64 l)∧W.cell? ⟨w.heap.size+1,7,none⟩=some (.string tt)∧W.cell? ⟨w.heap.size+1,8,none⟩=some (.string m)∧W.cell? ⟨w.heap.size+1,9,none⟩=some (.int .i64 x9)∧W.cell? ⟨w.heap.size+1,10,none⟩=some (.int .i64 x10)∧W.cell? ⟨w.heap.size+1,11,none⟩=some (.int .i64 x11))∧W.cell? ⟨BU,1,none⟩=some (.int .i64 fp)) (exact s14_grow HS.out b_2) (first|(go_at_call 98;refine(Kcp.out _ (HG5.out.trans b_22)).mono ?_;rintro e wq1 ⟨vq1,rfl,hvq1,gq1,-⟩;have GQ1:=uZ (show Grew w5 wq1 from uY b_22 gq1);(first|have Na1:=uZ (show Grew (w5.alloc (.cells [.slice none 0 0,.slice none 0 0].toArray 35)) wq1 from uY (uX _).drew gq1)|have Na1:=uZ (show Grew (w5.alloc (.cells [.slice none 0 0,.slice none 0 0].toArray 35)) wq1 from uY (uX _) gq1)|skip);have HVq1:=uZ hvq1;clear hvq1;clear gq1)|(go_at_call 104;refine(Kwo.out _ _ (SlI.mono HVq1.out b_22)).mono ?_;rintro e wq2 ⟨vq2,rfl,hoq2,gq2⟩;have GQ2:=uZ (show Grew w5 wq2 from uY b_13 gq2);have GL2:=uZ (show Grew wq1 wq2 from uY b_22 gq2);(first|have Na2:=uZ (show Grew (wq1.alloc (.cells [.slice none 0 0,.slice none 0 0].toArray 35)) wq2 from uY (uX _).drew gq2)|have Na2:=uZ (show Grew (wq1.alloc (.cells [.slice none 0 0,.slice none 0 0].toArray 35)) wq2 from uY (uX _) gq2)|skip);have HVq2:=uZ (show SlI wq2 vq2 KW from Rd.of_own hoq2);clear hoq2;clear gq2)|(go_at_call 101;refine(Kst.out _ _ (HG5.out.trans b_14) (SlI.mono HVq2.out b_22)).mono ?_;rintro e wq3 ⟨rq3,bq3,rfl,htq3,gq3⟩;have GQ3:=uZ (show Grew w5 wq3 from uY b_10 gq3);have GL3:=uZ (show Grew wq2 wq3 from uY b_22 gq3);(first|have Na3:=uZ (show Grew (wq2.alloc (.cells [.slice none 0 0,.slice none 0 0].toArray 35)) wq3 from uY (uX _).drew gq3)|have Na3:=uZ (show Grew (wq2.alloc (.cells [.slice none 0 0,.slice none 0 0].toArray 35)) wq3 from uY (uX _) gq3)|skip);(try have Pq1:=uK (((Na1.out).trans GL2.out).trans GL3.out) (heap_allocE (a:=w5) (p:=(.cells [.slice none 0 0,.slice none 0 0].toArray 35)) rfl));(try have pq10:=(zt_facts Pq1).1);(try have pq11:=(zt_facts Pq1).2.1);(try have pq12:=(zt_facts Pq1).2.2.1);(try have pq13:=(zt_facts Pq1).2.2.2);(try have Pq2:=uK ((Na2.out).trans GL3.out) (heap_allocE (a:=wq1) (p:=(.cells [.slice none 0 0,.slice none 0 0].toArray 35)) rfl));(try have pq20:=(zt_facts Pq2).1);(try have pq21:=(zt_facts Pq2).2.1);(try have pq22:=(zt_facts Pq2).2.2.1);(try have pq23:=(zt_facts Pq2).2.2.2);(try have Pq3:=uK (Na3.out) (heap_allocE (a:=wq2) (p:=(.cells [.slice none 0 0,.slice none 0 0].toArray 35)) rfl));(try have pq30:=(zt_facts Pq3).1);(try have pq31:=(zt_facts Pq3).2.1);(try have pq32:=(zt_facts Pq3).2.2.1);(try have pq33:=(zt_facts Pq3).2.2.2);obtain⟨⟨Aq3,nq3,kq3,rfl⟩,Bq3,mq3,lq3,rfl⟩:=slices2 htq3;have HTq3:=uZ htq3;clear htq3;clear gq3))
  all_goals go_wp2_with fail
  all_goals go_meet
  all_goals first|exact set_meet2 GQ3.out HTq3.out|exact set_meet Pq1 (Nat.le_refl _) GQ3.out HTq3.out|exact set_meet Pq2 GQ1.out.size GQ3.out HTq3.out|exact set_meet Pq3 GQ2.out.size GQ3.out HTq3.out
 case rest =>
  skip
  obtain⟨X,rvS,bvS,rfl,hX,hlo,hT,hgC⟩:=hcut
  obtain⟨wD,hwD⟩:∃ wD,wD=wc:=⟨_,rfl⟩
  subst hwD
  have HT:=uZ hT
  have GD:=uZ (G5.out.trans hgC)
  have HGD:=uZ (HG5.out.trans hgC)
  have G5D:=uZ hgC
  obtain⟨⟨A4,n4,k4,rfl⟩,B4,m4,l4,rfl⟩:=slices2 hT
  have HX:=uZ hX
  have HXL:=uZ hlo
  clear hT hgC hX hlo HS Kcp Kwo Kst
  obtain⟨⟨r0,b0,a0,a1,a2,a3,a4,a5,a6,a7,a8,a9,a10,a11⟩,hR⟩:=HB.out _ GD.out
  obtain⟨q0,q1,z0,z1⟩:=res4 hR
  have HR:=uZ hR
  clear hR
  obtain⟨x0,x1,-,-⟩:=zt_facts4 HX.out
  go_wp2_with fail
  refine(Kc2.out _ _ _ HT.out).mono ?_
  rintro e w6 ⟨v6,rfl,hv6,g6,-⟩
  have HV6:=uZ hv6
  have G56:=uZ (G5D.out.trans g6)
  have G6:=uZ (G5.out.trans G56.out)
  have HG6:=uZ (GA.out.trans G6.out)
  replace HX:=uZ (uK g6 HX.out)
  replace HT:=uZ (HT.out.mono g6)
  clear r0 b0 a0 a1 a2 a3 a4 a5 a6 a7 a8 a9 a10 a11 q0 q1 z0 z1 HR x0 x1 g6 hv6 Kc2
  obtain⟨⟨r0,b0,a0,a1,a2,a3,a4,a5,a6,a7,a8,a9,a10,a11⟩,hR⟩:=HB.out _ G6.out
  obtain⟨q0,q1,z0,z1⟩:=res4 hR
  have HR:=uZ hR
  clear hR
  dsimp only
  have hbb:(b != 0)=false:=by simpa using Hbz.out
  have hX0:=HX.out
  obtain⟨x0,x1,-,-⟩:=zt_facts4 hX0
  clear hX0
  go_wp2_with fail
  clear r0 b0 a0 a1 a2 a6 a7 a8 a9 a10 a11 q0 q1 z0 z1
  replace x0:=uQ ((uX w6).drew) x0
  replace x1:=uQ ((uX w6).drew) x1
  replace a3:=uQ ((uX w6).drew) a3
  replace a4:=uQ ((uX w6).drew) a4
  replace a5:=uQ ((uX w6).drew) a5
  have HXn:RowKit.Hid (X<w6.heap.size):=uZ ((Array.getElem?_eq_some_iff.1 HX.out).1)
  go_cut [] from 88 to 98 (fun wx=>∃ r b,wx.heap[X]? = some (.cells #[r,b] 35 (0,0))∧TrLo w6.heap.size wx r b T2∧Grew w5 wx)
  case first =>
   refine wp_region_held_drew (S:=(fun W=>W.cell? ⟨w.heap.size+1,3,none⟩=some (.int .i64 u)∧W.cell? ⟨w.heap.size+1,4,none⟩=some (.int .i64 p)∧W.cell? ⟨w.heap.size+1,5,none⟩=some (.int .i64 b))) (by kernel_rfl) ⟨a3,a4,a5⟩ (fun hHeld=>?_)
   refine wpAnyH_take (i:=1) (v:=?_) rfl (by kernel_rfl) (by kernel_rfl) (by kernel_rfl) (fun _ _ _ h=>h) (Or.inl ⟨by rfl,?_⟩) b_35 ?_
   rotate_left
   ((intro w hSw;(try dsimp only at hSw);go_simp);(try with_reducible rfl))
   try simp only [Act.put,List.setIfInBounds_toArray]
   refine wpAnyH_take (i:=2) (v:=?_) rfl (by kernel_rfl) (by kernel_rfl) (by kernel_rfl) (fun _ _ _ h=>h) (Or.inl ⟨by rfl,?_⟩) b_35 ?_
   rotate_left
   ((intro w hSw;(try dsimp only at hSw);go_simp);(try with_reducible rfl))
   try simp only [Act.put]
   refine wpAnyH_take (i:=3) (v:=?_) rfl (by kernel_rfl) (by kernel_rfl) (by kernel_rfl) (fun _ _ _ h=>h) (Or.inl ⟨by rfl,?_⟩) b_35 ?_
   rotate_left
   ((intro w hSw;(try dsimp only at hSw);go_simp);(try with_reducible rfl))
   try simp only [Act.put]
   refine wpAnyH_take (i:=4) (v:=?_) rfl (by kernel_rfl) (by kernel_rfl) (by kernel_rfl) (fun _ _ _ h=>h) (Or.inl ⟨by rfl,?_⟩) b_35 ?_
   rotate_left
   ((intro w hSw;(try dsimp only at hSw);go_simp);(try with_reducible rfl))
   try simp only [Act.put]
   refine wpAnyH_take (i:=5) (v:=?_) rfl (by kernel_rfl) (by kernel_rfl) (by kernel_rfl) (fun _ _ _ h=>h) (Or.inl ⟨by rfl,?_⟩) b_35 ?_
   rotate_left
   ((intro w hSw;(try dsimp only at hSw);go_simp);(try with_reducible rfl))
   try simp only [Act.put]
   refine wpAnyH_take (i:=6) (v:=?_) rfl (by kernel_rfl) (by kernel_rfl) (by kernel_rfl) (fun _ _ _ h=>h) (Or.inl ⟨by rfl,?_⟩) b_35 ?_
   rotate_left
   ((intro w hSw;(try dsimp only at hSw);go_simp);(try with_reducible rfl))
   try simp only [Act.put]
   refine wpAnyH_take (i:=7) (v:=?_) rfl (by kernel_rfl) (by kernel_rfl) (by kernel_rfl) (fun _ _ _ h=>h) (Or.inl ⟨by rfl,?_⟩) b_35 ?_
   rotate_left
   ((intro w hSw;(try dsimp only at hSw);go_simp);(try with_reducible rfl))
   try simp only [Act.put]
   have HXO:=uZ (show X≠w.heap.size+1 from fun e=>by have h1:w5.heap.size≤X:=HXL.out;have h2:=(Array.getElem?_eq_some_iff.1 (HB.out w5 G5.out).2).1;omega)
   refine wpAnyH_ready (rs:=[0,8]) (by kernel_rfl) b_38 ?_
   refine AllReadyH.cons rfl (fun K hK=>?_) ?_
   ·go_simp
    refine hK.out _ _ ⟨a3,a4,a5⟩ (fun hHeld=>?_)
    clear hK K
    try simp only [Act.put,List.setIfInBounds_toArray,List.set_cons_zero,List.set_cons_succ]
    refine wpAnyH_ready (rs:=[8]) (by kernel_rfl) b_38 ?_
    refine AllReadyH.cons rfl (fun K hK=>?_) AllReadyH.nil
    go_simp
    (go_at_call 102;refine(Kpu.out _ _ (SlI.mono HV6.out b_22)).mono ?_;rintro e w8 ⟨v8,rfl,ho8,g8⟩;have G8:=uZ (show Grew w6 w8 from uY b_22 g8);have HV8:=uZ (show SlI w8 v8 PUT from Rd.of_own ho8);have HB8:=uZ (show ∀ k,blk v8=some k→w6.heap.size≤k from fun k hk=>(ho8.lt k (blk_own hk)).1);have y0:=uQ g8 x0;have y1:=uQ g8 x1;have HS8:=uZ (three_grow ⟨a3,a4,a5⟩ g8);clear ho8 g8;dsimp only)
    refine hK.out _ _ HS8.out (fun hHeld=>?_)
    clear hK K
    try simp only [Act.put,List.setIfInBounds_toArray,List.set_cons_zero,List.set_cons_succ]
    refine wpAnyH_ready (rs:=[9]) (by kernel_rfl) b_38 ?_
    refine AllReadyH.cons rfl (fun K hK=>?_) AllReadyH.nil
    go_simp
    (go_at_call 101;refine(Kst2.out w6.heap.size _ _ _ _ (HT.out.mono b_17) (SlI.mono HV8.out b_22) (Grew.size b_17) HB8.out).mono ?_;rintro e w9 ⟨r9,b9,rfl,ht9,g9⟩;obtain⟨⟨A9,n9,k9,rfl⟩,B9,m9,l9,rfl⟩:=slices2 ht9.ok;have HT9:=uZ ht9;have G9:=uZ (show Grew w6 w9 from uY b_17 g9);have HX9:=uZ (uK G9.out HX.out);obtain⟨t0,t1,t2,t3⟩:=zt_facts4 HX9.out;have HS9:=uZ (three_grow HS8.out g9);clear ht9 g9;dsimp only)
    refine hK.out _ _ HS9.out (fun hHeld=>?_)
    clear hK K
    try simp only [Act.put,List.setIfInBounds_toArray,List.set_cons_zero,List.set_cons_succ]
    refine wpAnyH_ready (rs:=[10]) (by kernel_rfl) b_38 ?_
    refine AllReadyH.cons rfl (fun K hK=>?_) AllReadyH.nil
    go_simp
    refine hK.out _ _ (three_set HXO.out HS9.out) (fun hHeld=>?_)
    clear hK K
    try simp only [Act.put,List.setIfInBounds_toArray,List.set_cons_zero,List.set_cons_succ]
    refine wpAnyH_done (by kernel_rfl) ?_ _
    go_wp2_with fail
    go_meet
    exact put_meetL HX9.out HXL.out HXn.out (G56.out.trans G9.out) HT9.out
   refine AllReadyH.cons rfl (fun K hK=>?_) AllReadyH.nil
   ·go_simp
    (go_at_call 102;refine(Kpu.out _ _ (SlI.mono HV6.out b_22)).mono ?_;rintro e w8 ⟨v8,rfl,ho8,g8⟩;have G8:=uZ (show Grew w6 w8 from uY b_22 g8);have HV8:=uZ (show SlI w8 v8 PUT from Rd.of_own ho8);have HB8:=uZ (show ∀ k,blk v8=some k→w6.heap.size≤k from fun k hk=>(ho8.lt k (blk_own hk)).1);have y0:=uQ g8 x0;have y1:=uQ g8 x1;have HS8:=uZ (three_grow ⟨a3,a4,a5⟩ g8);clear ho8 g8;dsimp only)
    refine hK.out _ _ HS8.out (fun hHeld=>?_)
    clear hK K
    try simp only [Act.put,List.setIfInBounds_toArray,List.set_cons_zero,List.set_cons_succ]
    refine wpAnyH_ready (rs:=[0]) (by kernel_rfl) b_38 ?_
    refine AllReadyH.cons rfl (fun K hK=>?_) AllReadyH.nil
    go_simp
    refine hK.out _ _ HS8.out (fun hHeld=>?_)
    clear hK K
    try simp only [Act.put,List.setIfInBounds_toArray,List.set_cons_zero,List.set_cons_succ]
    refine wpAnyH_ready (rs:=[9]) (by kernel_rfl) b_38 ?_
    refine AllReadyH.cons rfl (fun K hK=>?_) AllReadyH.nil
    go_simp
    (go_at_call 101;refine(Kst2.out w6.heap.size _ _ _ _ (HT.out.mono b_17) (SlI.mono HV8.out b_22) (Grew.size b_17) HB8.out).mono ?_;rintro e w9 ⟨r9,b9,rfl,ht9,g9⟩;obtain⟨⟨A9,n9,k9,rfl⟩,B9,m9,l9,rfl⟩:=slices2 ht9.ok;have HT9:=uZ ht9;have G9:=uZ (show Grew w6 w9 from uY b_17 g9);have HX9:=uZ (uK G9.out HX.out);obtain⟨t0,t1,t2,t3⟩:=zt_facts4 HX9.out;have HS9:=uZ (three_grow HS8.out g9);clear ht9 g9;dsimp only)
    refine hK.out _ _ HS9.out (fun hHeld=>?_)
    clear hK K
    try simp only [Act.put,List.setIfInBounds_toArray,List.set_cons_zero,List.set_cons_succ]
    refine wpAnyH_ready (rs:=[10]) (by kernel_rfl) b_38 ?_
    refine AllReadyH.cons rfl (fun K hK=>?_) AllReadyH.nil
    go_simp
    refine hK.out _ _ (three_set HXO.out HS9.out) (fun hHeld=>?_)
    clear hK K
    try simp only [Act.put,List.setIfInBounds_toArray,List.set_cons_zero,List.set_cons_succ]
    refine wpAnyH_done (by kernel_rfl) ?_ _
    go_wp2_with fail
    go_meet
    exact put_meetL HX9.out HXL.out HXn.out (G56.out.trans G9.out) HT9.out
  case rest =>
   skip
   obtain⟨rvT,bvT,hXT,hLT,hGT⟩:=hcut
   obtain⟨⟨AT,nT,kT,rfl⟩,BT,mT,lT,rfl⟩:=slices2 hLT.ok
   have HLT:=uZ hLT
   have G7:=uZ (G5.out.trans hGT)
   have HG7:=uZ (GA.out.trans G7.out)
   obtain⟨t0,t1,-,-⟩:=zt_facts4 hXT
   have hUT:=uK hGT HU5.out
   obtain⟨u0,u1,u2,u3,u4⟩:=unit_cells hUT
   have f1:=frz_of hUT 1
   have hb5:=(Array.getElem?_eq_some_iff.1 HU5.out).1
   have hb6:=G56.out.size
   have hXl:=HXL.out
   have hbl:=HBL.out
   have HBn:=uZ (show BU<w6.heap.size by omega)
   have hWA:=(Array.getElem?_eq_some_iff.1 (HB.out WA (uX _)).2).1
   have e0:¬ X=BU:=by omega
   have e1:¬ w.heap.size+1=BU:=by omega
   clear hXT hLT hGT hUT hb5 hb6 hXl hbl hWA a3 a4 a5 x0 x1
   obtain⟨⟨r0,b0,a0,a1,a2,a3,a4,a5,a6,a7,a8,a9,a10,a11⟩,hR⟩:=HB.out _ G7.out
   obtain⟨q0,q1,z0,z1⟩:=res4 hR
   have HR:=uZ hR
   clear hR
   go_wp2_with fail
   refine(Kch.out _ _ _ _ _ _ _ _ (HLT.out.set ⟨BU,1,none⟩ _ HBn.out).ok).mono ?_
   rintro e wN ⟨rvN,bvN,rfl,htN,gN⟩
   obtain⟨⟨AN,nN,kN,rfl⟩,BN,mN,lN,rfl⟩:=slices2 htN
   have HTN:=uZ htN
   have GN:=uZ ((G7.out.setCell (p:=⟨BU,1,none⟩) HBL.out (.int .i64 p)).trans gN)
   have HGN:=uZ (GA.out.trans GN.out)
   clear r0 b0 a0 a1 a2 a3 a4 a5 a6 a7 a8 a9 a10 a11 q0 q1 z0 z1 HR htN gN t0 t1 u0 u1 u2 u3 u4 f1 e0 e1
   obtain⟨⟨r0,b0,a0,a1,a2,a3,a4,a5,a6,a7,a8,a9,a10,a11⟩,hR⟩:=HB.out _ GN.out
   obtain⟨q0,q1,z0,z1⟩:=res4 hR
   have HR:=uZ hR
   clear hR
   dsimp only
   go_wp2_with fail
   obtain⟨p0,p1⟩:=res_cells (v0:=(.slice AN nN kN)) (v1:=(.slice BN mN lN)) q0 q1
   refine bodyPost_ret (v:=.tuple #[.agg #[.slice AN nN kN,.slice BN mN lN],.int .i64 0]) b_26 rfl ?_
   exact laidTr HR.out b_37 HGN.out HTN.out):p:=h
theorem three_set {W:World} {X Y:Nat} {j0 j1 j2:Nat} {x y z u v:Value} (hne:X≠Y) (h:W.cell? ⟨Y,j0,none⟩=some x∧W.cell? ⟨Y,j1,none⟩=some y∧W.cell? ⟨Y,j2,none⟩=some z):((W.setCell ⟨X,0,none⟩ u).setCell ⟨X,1,none⟩ v).cell? ⟨Y,j0,none⟩=some x∧((W.setCell ⟨X,0,none⟩ u).setCell ⟨X,1,none⟩ v).cell? ⟨Y,j1,none⟩=some y∧((W.setCell ⟨X,0,none⟩ u).setCell ⟨X,1,none⟩ v).cell? ⟨Y,j2,none⟩=some z:=by
 have key:∀ j,((W.setCell ⟨X,0,none⟩ u).setCell ⟨X,1,none⟩ v).cell? ⟨Y,j,none⟩=W.cell? ⟨Y,j,none⟩:=fun j=>by
  rw[uV _ _ _ _ (adr_ne hne),uV _ _ _ _ (adr_ne hne)]
 rw[key,key,key]
 exact h
theorem put_meetL {n:Nat} {W0 W:World} {X:Nat} {T:Tr} {rv bv r0 b0:Value} (hX:W.heap[X]? = some (.cells #[r0,b0] 35 (0,0))) (hlo:W0.heap.size≤X) (hXn:X<n) (hG:Grew W0 W) (h:TrLo n W rv bv T):∃ r b,((W.setCell ⟨X,0,none⟩ rv).setCell ⟨X,1,none⟩ bv).heap[X]? = some (.cells #[r,b] 35 (0,0))∧TrLo n ((W.setCell ⟨X,0,none⟩ rv).setCell ⟨X,1,none⟩ bv) r b T∧Grew W0 ((W.setCell ⟨X,0,none⟩ rv).setCell ⟨X,1,none⟩ bv):=by
 have k1:=heap_setCell_same W X 0 #[r0,b0] 35 rv hX
 have k2:(W.setCell ⟨X,0,none⟩ rv).heap[X]? = some (.cells #[rv,b0] 35 (0,0)):=by simpa using k1
 have k3:=heap_setCell_same (W.setCell ⟨X,0,none⟩ rv) X 1 #[rv,b0] 35 bv k2
 exact⟨rv,bv,by simpa using k3,(h.set ⟨X,0,none⟩ rv hXn).set ⟨X,1,none⟩ bv hXn,(hG.setCell hlo _).setCell hlo _⟩
set_option maxHeartbeats 16000000 in
set_option maxRecDepth 100000 in
theorem refMoveYesSN (t:Tr) (o:Opn) (rv bv:Value) (w:World) (hr:SlI w rv t.roots) (hv:SlBr w bv t.brs) (hf:FewBr t.brs) (hrl:t.roots.length≤1000000) (hT:RightT t) (hm:∀ i (h:i<t.brs.length),t.brs[i].mark.size≤9223372036854775807) {fb:Br} (ho:brFind t.brs o.unit=some fb) {pq:Br} (hp:brFind t.brs o.parent=some pq) (hc:o.parent∉belowT t o.unit) (hl:levR t o.parent fb.level=0) (hbz:o.before=0) {PUT:List Int} (hpu:putR o.unit o.before (childs (takeR t o fb) o.parent)++(if o.before=0 then[o.unit] else[])=PUT) (hpl:PUT.length≤1000000):Calls Tryz.prog 57 #[.agg #[rv,bv],o.agg] w (RetTr (chG (setG (takeR t o fb) o.parent PUT) { fb with parent:=o.parent },0) w):=by
 have HTT:=uZ (fun W (hW:Grew w W)=>(⟨hr.mono hW,hv.mono hW⟩:TrOk W rv bv t))
 have kF:=fun W (hW:Grew w W)=>refFind19 t.brs o.unit rv bv W (hv.mono hW)
 rw[ho] at kF
 unfold TFindEnd at kF
 dsimp only [Option.getD_some,Option.isSome_some] at kF
 have hin:=find_in ho
 have kG:=fun W (hW:Grew w W)=>refFind19 t.brs o.parent rv bv W (hv.mono hW)
 rw[hp] at kG
 unfold TFindEnd at kG
 dsimp only [Option.getD_some,Option.isSome_some] at kG
 have kB:=fun W (hW:Grew w W)=>refBelow t.roots t.brs o.unit rv bv W (hr.mono hW) (hv.mono hW) hf hrl hm
 rw[show belowR ⟨t.roots,t.brs⟩ o.unit=_ from belowR_there hT (.inr ⟨fb,hin.1,hin.2⟩)] at kB
 clear hin
 have kH:=fun v W h=>ref21Has (belowT t o.unit) o.parent v W h
 rw[decide_eq_false hc] at kH
 have kL:=fun W (hW:Grew w W)=>lev21 t o.parent fb.level rv bv W (hr.mono hW) (hv.mono hW)
 rw[hl] at kL
 have kcp:=fun W (hW:Grew w W)=>refChildren t.roots t.brs fb.parent rv bv W (hr.mono hW) (hv.mono hW) hf hrl
 rw[show childs ⟨t.roots,t.brs⟩ fb.parent=childs t fb.parent from rfl] at kcp
 have hkl:=childs_few hf hrl fb.parent
 have kwo:=fun v W (h:SlI W v (childs t fb.parent))=>ref21Without (childs t fb.parent) o.unit v W h hkl
 have kst:=fun kv W (hW:Grew w W) (h:SlI W kv (withoutF o.unit (childs t fb.parent)))=>ref21Set t fb.parent (withoutF o.unit (childs t fb.parent)) rv bv kv W (hr.mono hW) (hv.mono hW) hf hrl h
 rw[show setG t fb.parent (withoutF o.unit (childs t fb.parent))=takeR t o fb from rfl] at kst
 have hf1:=takeR_few (o:=o) (fb:=fb) hf hrl
 have kc2:=fun rx bx W (h:TrOk W rx bx (takeR t o fb))=>refChildren (takeR t o fb).roots (takeR t o fb).brs o.parent rx bx W h.1 h.2 hf1.1 hf1.2
 rw[show childs ⟨(takeR t o fb).roots,(takeR t o fb).brs⟩ o.parent=childs (takeR t o fb) o.parent from rfl] at kc2
 have kh2:=fun v W h=>ref21Has (childs (takeR t o fb) o.parent) o.before v W h
 have hkc:(childs (takeR t o fb) o.parent).length≤1000000:=childs_few hf1.1 hf1.2 o.parent
 have kpu:=fun v W (h:SlI W v (childs (takeR t o fb) o.parent))=>ref21Put (childs (takeR t o fb) o.parent) o.unit o.before v W h hkc
 rw[hpu] at kpu
 have kst2:=fun n rx bx kv W (h:TrOk W rx bx (takeR t o fb)) (hk:SlI W kv PUT) (hn:n≤W.heap.size) (hkn:∀ k,blk kv=some k→n≤k)=>ref21SetN n (takeR t o fb) o.parent PUT rx bx kv W h.1 h.2 hf1.1 hf1.2 hk hn hkn
 have hf2:=few_setG hf1.1 hf1.2 o.parent hpl
 have kch:=fun ui up ul ut um rx bx W (h:TrOk W rx bx (setG (takeR t o fb) o.parent PUT))=>ref21Change (setG (takeR t o fb) o.parent PUT) ui up ul ut um rx bx W h.1 h.2 hf2.1 hf2.2
 clear hkc hf2 hpu hpl
 generalize setG (takeR t o fb) o.parent PUT=T2 at kst2 kch ⊢
 clear hf1 hkl hc hl ho hT hm hp
 generalize takeR t o fb=T1 at *
 generalize childs T1 o.parent=KS at *
 generalize withoutF o.unit (childs t fb.parent)=KW at *
 generalize childs t fb.parent=KP at *
 generalize belowT t o.unit=BL at *
 have HBX:=uZ (ref_box w o)
 obtain⟨Ar,cr,rfl,-⟩:=SlI.open_ hr
 obtain⟨Ab,cb,rfl,-⟩:=SlBr.open_ hv
 clear hr hv hf hrl
 obtain⟨i,d,k,u,p,b,l,tt,m,x9,x10,x11⟩:=o
 obtain⟨fi,fp,fl,ft,fm,fk⟩:=fb
 unfold Opn.agg
 unfold Opn.cells at HBX
 dsimp only at HBX kF kG kB kH kL kcp kwo kst kc2 kh2 hbz kpu kst2 kch ⊢
 have KF:=uZ kF
 have KG:=uZ kG
 have KB:=uZ kB
 have KH:=uZ kH
 have KL:=uZ kL
 have Kcp:=uZ kcp
 have Kwo:=uZ kwo
 have Kst:=uZ kst
 have Kc2:=uZ kc2
 have Kh2:=uZ kh2
 have Hbz:=uZ hbz
 have Kpu:=uZ kpu
 have Kst2:=uZ kst2
 have Kch:=uZ kch
 clear kF kG kB kH kL kcp kwo kst kc2 kh2 hbz kpu kst2 kch
 have GA:=uZ ((((uX w).alloc (.cells [.slice Ar t.roots.length cr,.slice Ab t.brs.length cb].toArray 35)).alloc (.cells [.int .i64 i,.int .i64 d,.int .i64 k,.int .i64 u,.int .i64 p,.int .i64 b,.int .i64 l,.string tt,.string m,.int .i64 x9,.int .i64 x10,.int .i64 x11].toArray 25)).alloc (.cells [.slice none 0 0,.slice none 0 0].toArray 35))
 have HB:=uZ (fun W g=>HBX.out (.slice Ar t.roots.length cr) (.slice Ab t.brs.length cb) W g)
 clear HBX
 go_enter Tryz.func57,Tryz.ntmps57
 go_wp2_with fail
 generalize ((w.alloc (.cells [.slice Ar t.roots.length cr,.slice Ab t.brs.length cb].toArray 35)).alloc (.cells [.int .i64 i,.int .i64 d,.int .i64 k,.int .i64 u,.int .i64 p,.int .i64 b,.int .i64 l,.string tt,.string m,.int .i64 x9,.int .i64 x10,.int .i64 x11].toArray 25)).alloc (.cells [.slice none 0 0,.slice none 0 0].toArray 35)=WA at GA HB ⊢
 obtain⟨pi,pp,pl,pt,pm,pk⟩:=pq
 refine(KF.out _ GA.out).mono ?_
 rintro e w1 ⟨rfl,g1⟩
 have G1:=uZ (g1.alloc (.cells #[.int .i64 fi,.int .i64 fp,.int .i64 fl,.string ft,.string fm] 51))
 have HG1:=uZ (GA.out.trans G1.out)
 have HBU:=uZ (heap_allocE (a:=w1) (p:=(.cells #[.int .i64 fi,.int .i64 fp,.int .i64 fl,.string ft,.string fm] 51)) rfl)
 obtain⟨⟨r0,b0,a0,a1,a2,a3,a4,a5,a6,a7,a8,a9,a10,a11⟩,hR⟩:=HB.out _ G1.out
 obtain⟨q0,q1,z0,z1⟩:=res4 hR
 have HR:=uZ hR
 clear hR
 have HBL:=uZ g1.size
 clear g1
 dsimp only
 go_wp2_with fail
 refine(KG.out _ HG1.out).mono ?_
 rintro e w2 ⟨rfl,g2⟩
 have G2:=uZ ((G1.out.trans g2).alloc (.cells #[.int .i64 pi,.int .i64 pp,.int .i64 pl,.string pt,.string pm] 51))
 have HG2:=uZ (GA.out.trans G2.out)
 have HU2:=uZ (uK (g2.alloc (.cells #[.int .i64 pi,.int .i64 pp,.int .i64 pl,.string pt,.string pm] 51)) HBU.out)
 clear r0 b0 a0 a1 a2 a3 a4 a5 a6 a7 a8 a9 a10 a11 q0 q1 z0 z1 HR g2 HBU
 obtain⟨⟨r0,b0,a0,a1,a2,a3,a4,a5,a6,a7,a8,a9,a10,a11⟩,hR⟩:=HB.out _ G2.out
 obtain⟨q0,q1,z0,z1⟩:=res4 hR
 have HR:=uZ hR
 clear hR
 generalize w1.heap.size=BU at HU2 HBL ⊢
 dsimp only
 go_wp2_with fail
 generalize w2.alloc (.cells #[.int .i64 pi,.int .i64 pp,.int .i64 pl,.string pt,.string pm] 51)=wY at G2 HG2 HU2 r0 b0 a0 a1 a2 a3 a4 a5 a6 a7 a8 a9 a10 a11 q0 q1 z0 z1 HR ⊢
 exact c_3
set_option maxHeartbeats 16000000 in
set_option maxRecDepth 100000 in
theorem refMoveYesSB (t:Tr) (o:Opn) (rv bv:Value) (w:World) (hr:SlI w rv t.roots) (hv:SlBr w bv t.brs) (hf:FewBr t.brs) (hrl:t.roots.length≤1000000) (hT:RightT t) (hm:∀ i (h:i<t.brs.length),t.brs[i].mark.size≤9223372036854775807) {fb:Br} (ho:brFind t.brs o.unit=some fb) {pq:Br} (hp:brFind t.brs o.parent=some pq) (hc:o.parent∉belowT t o.unit) (hl:levR t o.parent fb.level=0) (hbz:o.before≠0∧o.before∈childs (takeR t o fb) o.parent) {PUT:List Int} (hpu:putR o.unit o.before (childs (takeR t o fb) o.parent)++(if o.before=0 then[o.unit] else[])=PUT) (hpl:PUT.length≤1000000):Calls Tryz.prog 57 #[.agg #[rv,bv],o.agg] w (RetTr (chG (setG (takeR t o fb) o.parent PUT) { fb with parent:=o.parent },0) w):=by
 have HTT:=uZ (fun W (hW:Grew w W)=>(⟨hr.mono hW,hv.mono hW⟩:TrOk W rv bv t))
 have kF:=fun W (hW:Grew w W)=>refFind19 t.brs o.unit rv bv W (hv.mono hW)
 rw[ho] at kF
 unfold TFindEnd at kF
 dsimp only [Option.getD_some,Option.isSome_some] at kF
 have hin:=find_in ho
 have kG:=fun W (hW:Grew w W)=>refFind19 t.brs o.parent rv bv W (hv.mono hW)
 rw[hp] at kG
 unfold TFindEnd at kG
 dsimp only [Option.getD_some,Option.isSome_some] at kG
 have kB:=fun W (hW:Grew w W)=>refBelow t.roots t.brs o.unit rv bv W (hr.mono hW) (hv.mono hW) hf hrl hm
 rw[show belowR ⟨t.roots,t.brs⟩ o.unit=_ from belowR_there hT (.inr ⟨fb,hin.1,hin.2⟩)] at kB
 clear hin
 have kH:=fun v W h=>ref21Has (belowT t o.unit) o.parent v W h
 rw[decide_eq_false hc] at kH
 have kL:=fun W (hW:Grew w W)=>lev21 t o.parent fb.level rv bv W (hr.mono hW) (hv.mono hW)
 rw[hl] at kL
 have kcp:=fun W (hW:Grew w W)=>refChildren t.roots t.brs fb.parent rv bv W (hr.mono hW) (hv.mono hW) hf hrl
 rw[show childs ⟨t.roots,t.brs⟩ fb.parent=childs t fb.parent from rfl] at kcp
 have hkl:=childs_few hf hrl fb.parent
 have kwo:=fun v W (h:SlI W v (childs t fb.parent))=>ref21Without (childs t fb.parent) o.unit v W h hkl
 have kst:=fun kv W (hW:Grew w W) (h:SlI W kv (withoutF o.unit (childs t fb.parent)))=>ref21Set t fb.parent (withoutF o.unit (childs t fb.parent)) rv bv kv W (hr.mono hW) (hv.mono hW) hf hrl h
 rw[show setG t fb.parent (withoutF o.unit (childs t fb.parent))=takeR t o fb from rfl] at kst
 have hf1:=takeR_few (o:=o) (fb:=fb) hf hrl
 have kc2:=fun rx bx W (h:TrOk W rx bx (takeR t o fb))=>refChildren (takeR t o fb).roots (takeR t o fb).brs o.parent rx bx W h.1 h.2 hf1.1 hf1.2
 rw[show childs ⟨(takeR t o fb).roots,(takeR t o fb).brs⟩ o.parent=childs (takeR t o fb) o.parent from rfl] at kc2
 have kh2:=fun v W h=>ref21Has (childs (takeR t o fb) o.parent) o.before v W h
 rw[decide_eq_true hbz.2] at kh2
 replace hbz:=hbz.1
 have hkc:(childs (takeR t o fb) o.parent).length≤1000000:=childs_few hf1.1 hf1.2 o.parent
 have kpu:=fun v W (h:SlI W v (childs (takeR t o fb) o.parent))=>ref21Put (childs (takeR t o fb) o.parent) o.unit o.before v W h hkc
 rw[hpu] at kpu
 have kst2:=fun n rx bx kv W (h:TrOk W rx bx (takeR t o fb)) (hk:SlI W kv PUT) (hn:n≤W.heap.size) (hkn:∀ k,blk kv=some k→n≤k)=>ref21SetN n (takeR t o fb) o.parent PUT rx bx kv W h.1 h.2 hf1.1 hf1.2 hk hn hkn
 have hf2:=few_setG hf1.1 hf1.2 o.parent hpl
 have kch:=fun ui up ul ut um rx bx W (h:TrOk W rx bx (setG (takeR t o fb) o.parent PUT))=>ref21Change (setG (takeR t o fb) o.parent PUT) ui up ul ut um rx bx W h.1 h.2 hf2.1 hf2.2
 clear hkc hf2 hpu hpl
 generalize setG (takeR t o fb) o.parent PUT=T2 at kst2 kch ⊢
 clear hf1 hkl hc hl ho hT hm hp
 generalize takeR t o fb=T1 at *
 generalize childs T1 o.parent=KS at *
 generalize withoutF o.unit (childs t fb.parent)=KW at *
 generalize childs t fb.parent=KP at *
 generalize belowT t o.unit=BL at *
 have HBX:=uZ (ref_box w o)
 obtain⟨Ar,cr,rfl,-⟩:=SlI.open_ hr
 obtain⟨Ab,cb,rfl,-⟩:=SlBr.open_ hv
 clear hr hv hf hrl
 obtain⟨i,d,k,u,p,b,l,tt,m,x9,x10,x11⟩:=o
 obtain⟨fi,fp,fl,ft,fm,fk⟩:=fb
 unfold Opn.agg
 unfold Opn.cells at HBX
 dsimp only at HBX kF kG kB kH kL kcp kwo kst kc2 kh2 hbz kpu kst2 kch ⊢
 have KF:=uZ kF
 have KG:=uZ kG
 have KB:=uZ kB
 have KH:=uZ kH
 have KL:=uZ kL
 have Kcp:=uZ kcp
 have Kwo:=uZ kwo
 have Kst:=uZ kst
 have Kc2:=uZ kc2
 have Kh2:=uZ kh2
 have Hbz:=uZ hbz
 have Kpu:=uZ kpu
 have Kst2:=uZ kst2
 have Kch:=uZ kch
 clear kF kG kB kH kL kcp kwo kst kc2 kh2 hbz kpu kst2 kch
 have GA:=uZ ((((uX w).alloc (.cells [.slice Ar t.roots.length cr,.slice Ab t.brs.length cb].toArray 35)).alloc (.cells [.int .i64 i,.int .i64 d,.int .i64 k,.int .i64 u,.int .i64 p,.int .i64 b,.int .i64 l,.string tt,.string m,.int .i64 x9,.int .i64 x10,.int .i64 x11].toArray 25)).alloc (.cells [.slice none 0 0,.slice none 0 0].toArray 35))
 have HB:=uZ (fun W g=>HBX.out (.slice Ar t.roots.length cr) (.slice Ab t.brs.length cb) W g)
 clear HBX
 go_enter Tryz.func57,Tryz.ntmps57
 go_wp2_with fail
 generalize ((w.alloc (.cells [.slice Ar t.roots.length cr,.slice Ab t.brs.length cb].toArray 35)).alloc (.cells [.int .i64 i,.int .i64 d,.int .i64 k,.int .i64 u,.int .i64 p,.int .i64 b,.int .i64 l,.string tt,.string m,.int .i64 x9,.int .i64 x10,.int .i64 x11].toArray 25)).alloc (.cells [.slice none 0 0,.slice none 0 0].toArray 35)=WA at GA HB ⊢
 obtain⟨pi,pp,pl,pt,pm,pk⟩:=pq
 refine(KF.out _ GA.out).mono ?_
 rintro e w1 ⟨rfl,g1⟩
 have G1:=uZ (g1.alloc (.cells #[.int .i64 fi,.int .i64 fp,.int .i64 fl,.string ft,.string fm] 51))
 have HG1:=uZ (GA.out.trans G1.out)
 have HBU:=uZ (heap_allocE (a:=w1) (p:=(.cells #[.int .i64 fi,.int .i64 fp,.int .i64 fl,.string ft,.string fm] 51)) rfl)
 obtain⟨⟨r0,b0,a0,a1,a2,a3,a4,a5,a6,a7,a8,a9,a10,a11⟩,hR⟩:=HB.out _ G1.out
 obtain⟨q0,q1,z0,z1⟩:=res4 hR
 have HR:=uZ hR
 clear hR
 have HBL:=uZ g1.size
 clear g1
 dsimp only
 go_wp2_with fail
 refine(KG.out _ HG1.out).mono ?_
 rintro e w2 ⟨rfl,g2⟩
 have G2:=uZ ((G1.out.trans g2).alloc (.cells #[.int .i64 pi,.int .i64 pp,.int .i64 pl,.string pt,.string pm] 51))
 have HG2:=uZ (GA.out.trans G2.out)
 have HU2:=uZ (uK (g2.alloc (.cells #[.int .i64 pi,.int .i64 pp,.int .i64 pl,.string pt,.string pm] 51)) HBU.out)
 clear r0 b0 a0 a1 a2 a3 a4 a5 a6 a7 a8 a9 a10 a11 q0 q1 z0 z1 HR g2 HBU
 obtain⟨⟨r0,b0,a0,a1,a2,a3,a4,a5,a6,a7,a8,a9,a10,a11⟩,hR⟩:=HB.out _ G2.out
 obtain⟨q0,q1,z0,z1⟩:=res4 hR
 have HR:=uZ hR
 clear hR
 generalize w1.heap.size=BU at HU2 HBL ⊢
 dsimp only
 go_wp2_with fail
 generalize w2.alloc (.cells #[.int .i64 pi,.int .i64 pp,.int .i64 pl,.string pt,.string pm] 51)=wY at G2 HG2 HU2 r0 b0 a0 a1 a2 a3 a4 a5 a6 a7 a8 a9 a10 a11 q0 q1 z0 z1 HR ⊢
 exact c_2
end Go.Proofs.YtafncfomiolmgaaGreatDoor