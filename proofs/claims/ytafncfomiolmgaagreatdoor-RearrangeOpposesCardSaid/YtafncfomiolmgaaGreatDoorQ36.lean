/- Lemmas on what the functions of the program and of the library compute: Rf12Z, Rf13, Rf7, Rf14, PlainRd. The conditions stand at each. -/
import Derived.Test.YtafncfomiolmgaaGreatDoorQ35
import Derived.Deep.CutRange
import Derived.Deep.RegionHeld3
import Derived.Test.YtafncfomiolmgaaGreatDoorQ33
import Derived.Test.YtafncfomiolmgaaGreatDoorQ10
import Derived.Test.YtafncfomiolmgaaGreatDoorQ11
namespace Go.Proofs.YtafncfomiolmgaaGreatDoor
open Go.RowKit
set_option maxHeartbeats 16000000 in
set_option maxRecDepth 100000 in
theorem refMoveYesZN (t:Tr) (o:Opn) (rv bv:Value) (w:World) (hr:SlI w rv t.roots) (hv:SlBr w bv t.brs) (hf:FewBr t.brs) (hrl:t.roots.length≤1000000) (hT:RightT t) (hm:∀ i (h:i<t.brs.length),t.brs[i].mark.size≤9223372036854775807) {fb:Br} (ho:brFind t.brs o.unit=some fb) (hp:o.parent=0) (hn:brFind t.brs o.parent=none) (hc:o.parent∉belowT t o.unit) (hl:levR t o.parent fb.level=0) (hbz:o.before=0) {PUT:List Int} (hpu:putR o.unit o.before (childs (takeR t o fb) o.parent)++(if o.before=0 then[o.unit] else[])=PUT) (hpl:PUT.length≤1000000):Calls Tryz.prog 57 #[.agg #[rv,bv],o.agg] w (RetTr (chG (setG (takeR t o fb) o.parent PUT) { fb with parent:=o.parent },0) w):=by
 have HTT:=uZ (fun W (hW:Grew w W)=>(⟨hr.mono hW,hv.mono hW⟩:TrOk W rv bv t))
 have kF:=fun W (hW:Grew w W)=>refFind19 t.brs o.unit rv bv W (hv.mono hW)
 rw[ho] at kF
 unfold TFindEnd at kF
 dsimp only [Option.getD_some,Option.isSome_some] at kF
 have hin:=find_in ho
 have kG:=fun W (hW:Grew w W)=>refFind19 t.brs o.parent rv bv W (hv.mono hW)
 rw[hn] at kG
 unfold TFindEnd at kG
 dsimp only [Option.getD_none,Option.isSome_none,br0] at kG
 have kB:=fun W (hW:Grew w W)=>refBelow t.roots t.brs o.unit rv bv W (hr.mono hW) (hv.mono hW) hf hrl hm
 rw[show belowR ⟨t.roots,t.brs⟩ o.unit=_ from belowR_there hT (.inr ⟨fb,hin.1,hin.2⟩)] at kB
 clear hin
 have kH:=fun v W h=>ref21Has (belowT t o.unit) o.parent v W h
 rw[decide_eq_false hc] at kH
 have kL:=fun W (hW:Grew w W)=>lev21 t o.parent fb.level rv bv W (hr.mono hW) (hv.mono hW)
 rw[hl] at kL
 have kcp:=fun W (hW:Grew w W)=>refChildren t.roots t.brs fb.parent rv bv W (hr.mono hW) (hv.mono hW) hf hrl
 rw[show childs ⟨t.roots,t.brs⟩ fb.parent=childs t fb.parent from rfl] at kcp
 have hkl:=childs_few hf hrl fb.parent
 have kwo:=fun v W (h:SlI W v (childs t fb.parent))=>ref21Without (childs t fb.parent) o.unit v W h hkl
 have kst:=fun kv W (hW:Grew w W) (h:SlI W kv (withoutF o.unit (childs t fb.parent)))=>ref21Set t fb.parent (withoutF o.unit (childs t fb.parent)) rv bv kv W (hr.mono hW) (hv.mono hW) hf hrl h
 rw[show setG t fb.parent (withoutF o.unit (childs t fb.parent))=takeR t o fb from rfl] at kst
 have hf1:=takeR_few (o:=o) (fb:=fb) hf hrl
 have kc2:=fun rx bx W (h:TrOk W rx bx (takeR t o fb))=>refChildren (takeR t o fb).roots (takeR t o fb).brs o.parent rx bx W h.1 h.2 hf1.1 hf1.2
 rw[show childs ⟨(takeR t o fb).roots,(takeR t o fb).brs⟩ o.parent=childs (takeR t o fb) o.parent from rfl] at kc2
 have kh2:=fun v W h=>ref21Has (childs (takeR t o fb) o.parent) o.before v W h
 have hkc:(childs (takeR t o fb) o.parent).length≤1000000:=childs_few hf1.1 hf1.2 o.parent
 have kpu:=fun v W (h:SlI W v (childs (takeR t o fb) o.parent))=>ref21Put (childs (takeR t o fb) o.parent) o.unit o.before v W h hkc
 rw[hpu] at kpu
 have kst2:=fun n rx bx kv W (h:TrOk W rx bx (takeR t o fb)) (hk:SlI W kv PUT) (hn:n≤W.heap.size) (hkn:∀ k,blk kv=some k→n≤k)=>ref21SetN n (takeR t o fb) o.parent PUT rx bx kv W h.1 h.2 hf1.1 hf1.2 hk hn hkn
 have hf2:=few_setG hf1.1 hf1.2 o.parent hpl
 have kch:=fun ui up ul ut um rx bx W (h:TrOk W rx bx (setG (takeR t o fb) o.parent PUT))=>ref21Change (setG (takeR t o fb) o.parent PUT) ui up ul ut um rx bx W h.1 h.2 hf2.1 hf2.2
 clear hkc hf2 hpu hpl
 generalize setG (takeR t o fb) o.parent PUT=T2 at kst2 kch ⊢
 clear hf1 hkl hc hl ho hT hm hn
 generalize takeR t o fb=T1 at *
 generalize childs T1 o.parent=KS at *
 generalize withoutF o.unit (childs t fb.parent)=KW at *
 generalize childs t fb.parent=KP at *
 generalize belowT t o.unit=BL at *
 have HBX:=uZ (ref_box w o)
 obtain⟨Ar,cr,rfl,-⟩:=SlI.open_ hr
 obtain⟨Ab,cb,rfl,-⟩:=SlBr.open_ hv
 clear hr hv hf hrl
 obtain⟨i,d,k,u,p,b,l,tt,m,x9,x10,x11⟩:=o
 obtain⟨fi,fp,fl,ft,fm,fk⟩:=fb
 unfold Opn.agg
 unfold Opn.cells at HBX
 dsimp only at HBX kF kG kB hp kH kL kcp kwo kst kc2 kh2 hbz kpu kst2 kch ⊢
 have KF:=uZ kF
 have KG:=uZ kG
 have KB:=uZ kB
 have Hp:=uZ hp
 have KH:=uZ kH
 have KL:=uZ kL
 have Kcp:=uZ kcp
 have Kwo:=uZ kwo
 have Kst:=uZ kst
 have Kc2:=uZ kc2
 have Kh2:=uZ kh2
 have Hbz:=uZ hbz
 have Kpu:=uZ kpu
 have Kst2:=uZ kst2
 have Kch:=uZ kch
 clear kF kG kB hp kH kL kcp kwo kst kc2 kh2 hbz kpu kst2 kch
 have GA:=uZ ((((uX w).alloc (.cells [.slice Ar t.roots.length cr,.slice Ab t.brs.length cb].toArray 35)).alloc (.cells [.int .i64 i,.int .i64 d,.int .i64 k,.int .i64 u,.int .i64 p,.int .i64 b,.int .i64 l,.string tt,.string m,.int .i64 x9,.int .i64 x10,.int .i64 x11].toArray 25)).alloc (.cells [.slice none 0 0,.slice none 0 0].toArray 35))
 have HB:=uZ (fun W g=>HBX.out (.slice Ar t.roots.length cr) (.slice Ab t.brs.length cb) W g)
 clear HBX
 go_enter Tryz.func57,Tryz.ntmps57
 go_wp2_with fail
 generalize ((w.alloc (.cells [.slice Ar t.roots.length cr,.slice Ab t.brs.length cb].toArray 35)).alloc (.cells [.int .i64 i,.int .i64 d,.int .i64 k,.int .i64 u,.int .i64 p,.int .i64 b,.int .i64 l,.string tt,.string m,.int .i64 x9,.int .i64 x10,.int .i64 x11].toArray 25)).alloc (.cells [.slice none 0 0,.slice none 0 0].toArray 35)=WA at GA HB ⊢
 refine(KF.out _ GA.out).mono ?_
 rintro e w1 ⟨rfl,g1⟩
 have G1:=uZ (g1.alloc (.cells #[.int .i64 fi,.int .i64 fp,.int .i64 fl,.string ft,.string fm] 51))
 have HG1:=uZ (GA.out.trans G1.out)
 have HBU:=uZ (heap_allocE (a:=w1) (p:=(.cells #[.int .i64 fi,.int .i64 fp,.int .i64 fl,.string ft,.string fm] 51)) rfl)
 obtain⟨⟨r0,b0,a0,a1,a2,a3,a4,a5,a6,a7,a8,a9,a10,a11⟩,hR⟩:=HB.out _ G1.out
 obtain⟨q0,q1,z0,z1⟩:=res4 hR
 have HR:=uZ hR
 clear hR
 have HBL:=uZ g1.size
 clear g1
 dsimp only
 have hpb:(p != 0)=false:=by simpa using Hp.out
 go_wp2_with fail
 refine(KG.out _ HG1.out).mono ?_
 rintro e w2 ⟨rfl,g2⟩
 have G2:=uZ ((G1.out.trans g2).alloc (.cells #[.int .i64 0,.int .i64 0,.int .i64 0,.string ⟨#[]⟩,.string ⟨#[]⟩] 51))
 have HG2:=uZ (GA.out.trans G2.out)
 have HU2:=uZ (uK (g2.alloc (.cells #[.int .i64 0,.int .i64 0,.int .i64 0,.string ⟨#[]⟩,.string ⟨#[]⟩] 51)) HBU.out)
 clear r0 b0 a0 a1 a2 a3 a4 a5 a6 a7 a8 a9 a10 a11 q0 q1 z0 z1 HR g2 HBU
 obtain⟨⟨r0,b0,a0,a1,a2,a3,a4,a5,a6,a7,a8,a9,a10,a11⟩,hR⟩:=HB.out _ G2.out
 obtain⟨q0,q1,z0,z1⟩:=res4 hR
 have HR:=uZ hR
 clear hR
 generalize w1.heap.size=BU at HU2 HBL ⊢
 dsimp only
 go_wp2_with fail
 generalize w2.alloc (.cells #[.int .i64 0,.int .i64 0,.int .i64 0,.string ⟨#[]⟩,.string ⟨#[]⟩] 51)=wY at G2 HG2 HU2 r0 b0 a0 a1 a2 a3 a4 a5 a6 a7 a8 a9 a10 a11 q0 q1 z0 z1 HR ⊢
 exact c_3
set_option maxHeartbeats 16000000 in
set_option maxRecDepth 100000 in
theorem refMoveYesZB (t:Tr) (o:Opn) (rv bv:Value) (w:World) (hr:SlI w rv t.roots) (hv:SlBr w bv t.brs) (hf:FewBr t.brs) (hrl:t.roots.length≤1000000) (hT:RightT t) (hm:∀ i (h:i<t.brs.length),t.brs[i].mark.size≤9223372036854775807) {fb:Br} (ho:brFind t.brs o.unit=some fb) (hp:o.parent=0) (hn:brFind t.brs o.parent=none) (hc:o.parent∉belowT t o.unit) (hl:levR t o.parent fb.level=0) (hbz:o.before≠0∧o.before∈childs (takeR t o fb) o.parent) {PUT:List Int} (hpu:putR o.unit o.before (childs (takeR t o fb) o.parent)++(if o.before=0 then[o.unit] else[])=PUT) (hpl:PUT.length≤1000000):Calls Tryz.prog 57 #[.agg #[rv,bv],o.agg] w (RetTr (chG (setG (takeR t o fb) o.parent PUT) { fb with parent:=o.parent },0) w):=by
 have HTT:=uZ (fun W (hW:Grew w W)=>(⟨hr.mono hW,hv.mono hW⟩:TrOk W rv bv t))
 have kF:=fun W (hW:Grew w W)=>refFind19 t.brs o.unit rv bv W (hv.mono hW)
 rw[ho] at kF
 unfold TFindEnd at kF
 dsimp only [Option.getD_some,Option.isSome_some] at kF
 have hin:=find_in ho
 have kG:=fun W (hW:Grew w W)=>refFind19 t.brs o.parent rv bv W (hv.mono hW)
 rw[hn] at kG
 unfold TFindEnd at kG
 dsimp only [Option.getD_none,Option.isSome_none,br0] at kG
 have kB:=fun W (hW:Grew w W)=>refBelow t.roots t.brs o.unit rv bv W (hr.mono hW) (hv.mono hW) hf hrl hm
 rw[show belowR ⟨t.roots,t.brs⟩ o.unit=_ from belowR_there hT (.inr ⟨fb,hin.1,hin.2⟩)] at kB
 clear hin
 have kH:=fun v W h=>ref21Has (belowT t o.unit) o.parent v W h
 rw[decide_eq_false hc] at kH
 have kL:=fun W (hW:Grew w W)=>lev21 t o.parent fb.level rv bv W (hr.mono hW) (hv.mono hW)
 rw[hl] at kL
 have kcp:=fun W (hW:Grew w W)=>refChildren t.roots t.brs fb.parent rv bv W (hr.mono hW) (hv.mono hW) hf hrl
 rw[show childs ⟨t.roots,t.brs⟩ fb.parent=childs t fb.parent from rfl] at kcp
 have hkl:=childs_few hf hrl fb.parent
 have kwo:=fun v W (h:SlI W v (childs t fb.parent))=>ref21Without (childs t fb.parent) o.unit v W h hkl
 have kst:=fun kv W (hW:Grew w W) (h:SlI W kv (withoutF o.unit (childs t fb.parent)))=>ref21Set t fb.parent (withoutF o.unit (childs t fb.parent)) rv bv kv W (hr.mono hW) (hv.mono hW) hf hrl h
 rw[show setG t fb.parent (withoutF o.unit (childs t fb.parent))=takeR t o fb from rfl] at kst
 have hf1:=takeR_few (o:=o) (fb:=fb) hf hrl
 have kc2:=fun rx bx W (h:TrOk W rx bx (takeR t o fb))=>refChildren (takeR t o fb).roots (takeR t o fb).brs o.parent rx bx W h.1 h.2 hf1.1 hf1.2
 rw[show childs ⟨(takeR t o fb).roots,(takeR t o fb).brs⟩ o.parent=childs (takeR t o fb) o.parent from rfl] at kc2
 have kh2:=fun v W h=>ref21Has (childs (takeR t o fb) o.parent) o.before v W h
 rw[decide_eq_true hbz.2] at kh2
 replace hbz:=hbz.1
 have hkc:(childs (takeR t o fb) o.parent).length≤1000000:=childs_few hf1.1 hf1.2 o.parent
 have kpu:=fun v W (h:SlI W v (childs (takeR t o fb) o.parent))=>ref21Put (childs (takeR t o fb) o.parent) o.unit o.before v W h hkc
 rw[hpu] at kpu
 have kst2:=fun n rx bx kv W (h:TrOk W rx bx (takeR t o fb)) (hk:SlI W kv PUT) (hn:n≤W.heap.size) (hkn:∀ k,blk kv=some k→n≤k)=>ref21SetN n (takeR t o fb) o.parent PUT rx bx kv W h.1 h.2 hf1.1 hf1.2 hk hn hkn
 have hf2:=few_setG hf1.1 hf1.2 o.parent hpl
 have kch:=fun ui up ul ut um rx bx W (h:TrOk W rx bx (setG (takeR t o fb) o.parent PUT))=>ref21Change (setG (takeR t o fb) o.parent PUT) ui up ul ut um rx bx W h.1 h.2 hf2.1 hf2.2
 clear hkc hf2 hpu hpl
 generalize setG (takeR t o fb) o.parent PUT=T2 at kst2 kch ⊢
 clear hf1 hkl hc hl ho hT hm hn
 generalize takeR t o fb=T1 at *
 generalize childs T1 o.parent=KS at *
 generalize withoutF o.unit (childs t fb.parent)=KW at *
 generalize childs t fb.parent=KP at *
 generalize belowT t o.unit=BL at *
 have HBX:=uZ (ref_box w o)
 obtain⟨Ar,cr,rfl,-⟩:=SlI.open_ hr
 obtain⟨Ab,cb,rfl,-⟩:=SlBr.open_ hv
 clear hr hv hf hrl
 obtain⟨i,d,k,u,p,b,l,tt,m,x9,x10,x11⟩:=o
 obtain⟨fi,fp,fl,ft,fm,fk⟩:=fb
 unfold Opn.agg
 unfold Opn.cells at HBX
 dsimp only at HBX kF kG kB hp kH kL kcp kwo kst kc2 kh2 hbz kpu kst2 kch ⊢
 have KF:=uZ kF
 have KG:=uZ kG
 have KB:=uZ kB
 have Hp:=uZ hp
 have KH:=uZ kH
 have KL:=uZ kL
 have Kcp:=uZ kcp
 have Kwo:=uZ kwo
 have Kst:=uZ kst
 have Kc2:=uZ kc2
 have Kh2:=uZ kh2
 have Hbz:=uZ hbz
 have Kpu:=uZ kpu
 have Kst2:=uZ kst2
 have Kch:=uZ kch
 clear kF kG kB hp kH kL kcp kwo kst kc2 kh2 hbz kpu kst2 kch
 have GA:=uZ ((((uX w).alloc (.cells [.slice Ar t.roots.length cr,.slice Ab t.brs.length cb].toArray 35)).alloc (.cells [.int .i64 i,.int .i64 d,.int .i64 k,.int .i64 u,.int .i64 p,.int .i64 b,.int .i64 l,.string tt,.string m,.int .i64 x9,.int .i64 x10,.int .i64 x11].toArray 25)).alloc (.cells [.slice none 0 0,.slice none 0 0].toArray 35))
 have HB:=uZ (fun W g=>HBX.out (.slice Ar t.roots.length cr) (.slice Ab t.brs.length cb) W g)
 clear HBX
 go_enter Tryz.func57,Tryz.ntmps57
 go_wp2_with fail
 generalize ((w.alloc (.cells [.slice Ar t.roots.length cr,.slice Ab t.brs.length cb].toArray 35)).alloc (.cells [.int .i64 i,.int .i64 d,.int .i64 k,.int .i64 u,.int .i64 p,.int .i64 b,.int .i64 l,.string tt,.string m,.int .i64 x9,.int .i64 x10,.int .i64 x11].toArray 25)).alloc (.cells [.slice none 0 0,.slice none 0 0].toArray 35)=WA at GA HB ⊢
 refine(KF.out _ GA.out).mono ?_
 rintro e w1 ⟨rfl,g1⟩
 have G1:=uZ (g1.alloc (.cells #[.int .i64 fi,.int .i64 fp,.int .i64 fl,.string ft,.string fm] 51))
 have HG1:=uZ (GA.out.trans G1.out)
 have HBU:=uZ (heap_allocE (a:=w1) (p:=(.cells #[.int .i64 fi,.int .i64 fp,.int .i64 fl,.string ft,.string fm] 51)) rfl)
 obtain⟨⟨r0,b0,a0,a1,a2,a3,a4,a5,a6,a7,a8,a9,a10,a11⟩,hR⟩:=HB.out _ G1.out
 obtain⟨q0,q1,z0,z1⟩:=res4 hR
 have HR:=uZ hR
 clear hR
 have HBL:=uZ g1.size
 clear g1
 dsimp only
 have hpb:(p != 0)=false:=by simpa using Hp.out
 go_wp2_with fail
 refine(KG.out _ HG1.out).mono ?_
 rintro e w2 ⟨rfl,g2⟩
 have G2:=uZ ((G1.out.trans g2).alloc (.cells #[.int .i64 0,.int .i64 0,.int .i64 0,.string ⟨#[]⟩,.string ⟨#[]⟩] 51))
 have HG2:=uZ (GA.out.trans G2.out)
 have HU2:=uZ (uK (g2.alloc (.cells #[.int .i64 0,.int .i64 0,.int .i64 0,.string ⟨#[]⟩,.string ⟨#[]⟩] 51)) HBU.out)
 clear r0 b0 a0 a1 a2 a3 a4 a5 a6 a7 a8 a9 a10 a11 q0 q1 z0 z1 HR g2 HBU
 obtain⟨⟨r0,b0,a0,a1,a2,a3,a4,a5,a6,a7,a8,a9,a10,a11⟩,hR⟩:=HB.out _ G2.out
 obtain⟨q0,q1,z0,z1⟩:=res4 hR
 have HR:=uZ hR
 clear hR
 generalize w1.heap.size=BU at HU2 HBL ⊢
 dsimp only
 go_wp2_with fail
 generalize w2.alloc (.cells #[.int .i64 0,.int .i64 0,.int .i64 0,.string ⟨#[]⟩,.string ⟨#[]⟩] 51)=wY at G2 HG2 HU2 r0 b0 a0 a1 a2 a3 a4 a5 a6 a7 a8 a9 a10 a11 q0 q1 z0 z1 HR ⊢
 exact c_2
end Go.Proofs.YtafncfomiolmgaaGreatDoor
namespace Go.Proofs.YtafncfomiolmgaaGreatDoor
open Go.RowKit
def movR (t:Tr) (o:Opn):Tr × Int:=match brFind t.brs o.unit with
 | none=>(t,7)
 | some fb=>if faultM t o=0 then(moveT t o fb,0) else(t,faultM t o)
theorem lev_stands {t:Tr} {p n:Int} (h:p=0∨∃ b∈t.brs,b.id=p):levR t p n=if standsB t p n=true then 0 else 18:=by
 unfold levR standsB
 by_cases hp:p=0
 ·rw[if_pos hp,if_pos hp]
  by_cases hn:n=1
  ·rw[if_pos hn,if_pos (by simpa using hn)]
  ·rw[if_neg hn,if_neg (by simpa using hn)]
 ·rw[if_neg hp,if_neg hp]
  cases hb:brFind t.brs p with
  | none=>exact absurd (find_some_of h) (by rw[hb];simp[hp])
  | some b=>rfl
theorem move_cases {t:Tr} {o:Opn} {fb:Br} (hT:RightT t) (ho:brFind t.brs o.unit=some fb) (hpar:o.parent=0∨∃ b∈t.brs,b.id=o.parent) (Q:Tr × Int→Prop)
  (c1:o.parent∈belowT t o.unit→Q (t,17))
  (c2:o.parent∉belowT t o.unit→∀ n,levR t o.parent fb.level=n→n≠0→Q (t,n))
  (c3:o.parent∉belowT t o.unit→levR t o.parent fb.level=0→o.before≠0→o.before∉childs (takeR t o fb) o.parent→Q (t,7))
  (c4:o.parent∉belowT t o.unit→levR t o.parent fb.level=0→o.before=0→∀ PUT,putR o.unit o.before (childs (takeR t o fb) o.parent)++(if o.before=0 then[o.unit] else[])=PUT→PUT.length≤1000000→Q (chG (setG (takeR t o fb) o.parent PUT) { fb with parent:=o.parent },0))
  (c5:o.parent∉belowT t o.unit→levR t o.parent fb.level=0→o.before≠0∧o.before∈childs (takeR t o fb) o.parent→∀ PUT,putR o.unit o.before (childs (takeR t o fb) o.parent)++(if o.before=0 then[o.unit] else[])=PUT→PUT.length≤1000000→Q (chG (setG (takeR t o fb) o.parent PUT) { fb with parent:=o.parent },0)):Q (movR t o):=by
 have hs:=right_sound hT
 have hF:faultM t o=if o.parent∈belowT t o.unit then 17 else if standsB t o.parent fb.level=false then 18 else if o.before≠0∧(o.before=o.unit∨o.before∉childs t o.parent) then 7 else 0:=by
  unfold faultM
  rw[ho]
  dsimp only
  rw[if_neg (find_some_of hpar)]
 have hM:movR t o=if faultM t o=0 then(moveT t o fb,0) else(t,faultM t o):=by
  unfold movR
  rw[ho]
 have hL:=lev_stands (n:=fb.level) hpar
 have hc:=takeR_childs hs ho hpar
 have hmem:o.before∈childs (takeR t o fb) o.parent↔o.before∈childs t o.parent∧o.before≠o.unit:=by rw[hc];exact mem_without _ _ _
 obtain⟨hnd,h0⟩:=childs_nd hs hpar
 have hput:putR o.unit o.before (childs (takeR t o fb) o.parent)++(if o.before=0 then[o.unit] else[])=putF o.unit o.before (withoutF o.unit (childs t o.parent)):=by
  rw[hc]
  exact(putR_is (nodup_without _ hnd) (fun hm=>h0 ((mem_without _ _ _).1 hm).1)).symm
 have hlen:(putF o.unit o.before (withoutF o.unit (childs t o.parent))).length≤1000000:=by
  have h1:=putF_few.putF_le o.unit o.before (withoutF o.unit (childs t o.parent))
  have h2:(withoutF o.unit (childs t o.parent)).length≤(childs t o.parent).length:=List.length_filter_le _ _
  have h3:=kids_few (((sound_parts t).1 hs).2 o.parent hpar)
  have h4:=hs.len
  omega
 have hend:=move_ref hs ho hpar
 rw[hM]
 by_cases e1:o.parent∈belowT t o.unit
 ·rw[hF,if_pos e1]
  exact c1 e1
 rw[if_neg e1] at hF
 cases e2:standsB t o.parent fb.level with
 | false =>
  rw[e2] at hF hL
  rw[hF]
  exact c2 e1 18 hL b_36
 | true =>
  rw[e2,if_neg b_36] at hF
  rw[e2,if_pos rfl] at hL
  by_cases e3:o.before=0
  ·rw[if_neg (fun h=>h.1 e3)] at hF
   rw[hF,if_pos rfl,← hend]
   exact c4 e1 hL e3 _ hput hlen
  ·by_cases e4:o.before∈childs (takeR t o fb) o.parent
   ·rw[if_neg (fun h=>by
     obtain⟨k1,k2⟩:=hmem.1 e4
     rcases h.2 with h|h
     ·exact k2 h
     ·exact h k1)] at hF
    rw[hF,if_pos rfl,← hend]
    exact c5 e1 hL ⟨e3,e4⟩ _ hput hlen
   ·rw[if_pos ⟨e3,by
     by_cases k:o.before=o.unit
     ·exact .inl k
     ·exact .inr fun hm=>e4 (hmem.2 ⟨hm,k⟩)⟩] at hF
    rw[hF,if_neg b_36]
    exact c3 e1 hL e3 e4
theorem refMove (t:Tr) (o:Opn) (rv bv:Value) (w:World) (hr:SlI w rv t.roots) (hv:SlBr w bv t.brs) (hf:FewBr t.brs) (hrl:t.roots.length≤1000000) (hT:RightT t) (hm:∀ i (h:i<t.brs.length),t.brs[i].mark.size≤9223372036854775807) :
  Calls Tryz.prog 57 #[.agg #[rv,bv],o.agg] w (RetTr (movR t o) w):=by
 cases ho:brFind t.brs o.unit with
 | none =>
  have:=refMoveNo t o rv bv w hr hv ho
  unfold movR
  rw[ho]
  exact this
 | some fb =>
  by_cases hp:o.parent=0
  ·have hn:brFind t.brs o.parent=none:=by
    rw[hp]
    exact(find_none 0).2 (no_zero (right_sound hT))
   exact move_cases hT ho (.inl hp) (fun R=>Calls Tryz.prog 57 #[.agg #[rv,bv],o.agg] w (RetTr R w))
    (fun h1=>refMoveCycZ t o rv bv w hr hv hf hrl hT hm ho hp hn h1) (fun h1 n h2 h3=>refMoveLevZ t o rv bv w hr hv hf hrl hT hm ho hp hn h1 h2 h3)
    (fun h1 h2 h3 h4=>refMoveBefZ t o rv bv w hr hv hf hrl hT hm ho hp hn h1 h2 h3 h4) (fun h1 h2 h3 P h4 h5=>refMoveYesZN t o rv bv w hr hv hf hrl hT hm ho hp hn h1 h2 h3 h4 h5) (fun h1 h2 h3 P h4 h5=>refMoveYesZB t o rv bv w hr hv hf hrl hT hm ho hp hn h1 h2 h3 h4 h5)
  ·cases hq:brFind t.brs o.parent with
   | none =>
    have:=refMovePar t o rv bv w hr hv ho hp hq
    have hF:faultM t o=7:=by
     unfold faultM
     rw[ho]
     dsimp only
     rw[if_pos ⟨hp,by rw[hq];rfl⟩]
    unfold movR
    rw[ho,hF]
    exact this
   | some pq =>
    have hin:=find_in hq
    exact move_cases hT ho (.inr ⟨pq,hin.1,hin.2⟩) (fun R=>Calls Tryz.prog 57 #[.agg #[rv,bv],o.agg] w (RetTr R w))
     (fun h1=>refMoveCycS t o rv bv w hr hv hf hrl hT hm ho hq h1) (fun h1 n h2 h3=>refMoveLevS t o rv bv w hr hv hf hrl hT hm ho hq h1 h2 h3)
     (fun h1 h2 h3 h4=>refMoveBefS t o rv bv w hr hv hf hrl hT hm ho hq h1 h2 h3 h4) (fun h1 h2 h3 P h4 h5=>refMoveYesSN t o rv bv w hr hv hf hrl hT hm ho hq h1 h2 h3 h4 h5) (fun h1 h2 h3 P h4 h5=>refMoveYesSB t o rv bv w hr hv hf hrl hT hm ho hq h1 h2 h3 h4 h5)
end Go.Proofs.YtafncfomiolmgaaGreatDoor
namespace Go.Proofs.YtafncfomiolmgaaGreatDoor
open Go.RowKit
set_option maxRecDepth 100000 in
theorem c_33 {p:Prop} (h:p:=by
 have HLB:=uZ hlo
 dsimp only
 clear hWA hga hlo
 go_wp2_with fail
 refine(KCH.out _ _ _ _ _ _ (HG2.out.setCell (Nat.le_trans GA.out.size HLB.out) _)).mono ?_
 rintro e w3 ⟨rv3,bv3,rfl,ht3,g3⟩
 obtain⟨⟨A3,n3,k3,rfl⟩,B3,m3,l3,rfl⟩:=slices2 ht3
 have HT3:=uZ ht3
 have G3:=uZ ((G2.out.setCell (p:=⟨BU,4,none⟩) HLB.out (.string m)).trans g3)
 have HG3:=uZ (GA.out.trans G3.out)
 clear r0 b0 a0 a1 a2 a3 a4 a5 a6 a7 a8 a9 a10 a11 q0 q1 z0 z1 HR u0 u1 u2 u3 u4 f4 ht3 g3 e0 e1
 obtain⟨⟨r0,b0,a0,a1,a2,a3,a4,a5,a6,a7,a8,a9,a10,a11⟩,hR⟩:=HB.out _ G3.out
 obtain⟨q0,q1,z0,z1⟩:=res4 hR
 have HR:=uZ hR
 clear hR
 dsimp only
 go_wp2_with fail
 obtain⟨p0,p1⟩:=res_cells (v0:=(.slice A3 n3 k3)) (v1:=(.slice B3 m3 l3)) q0 q1
 refine bodyPost_ret (v:=.tuple #[.agg #[.slice A3 n3 k3,.slice B3 m3 l3],.int .i64 0]) (by simp[results,Tryz.results59,go_sem,p0,p1]) rfl ?_
 exact laidTr HR.out b_37 HG3.out HT3.out):p:=h
set_option maxHeartbeats 16000000 in
set_option maxRecDepth 100000 in
theorem refLabelNo (t:Tr) (o:Opn) (rv bv:Value) (w:World) (hr:SlI w rv t.roots) (hv:SlBr w bv t.brs) (ho:brFind t.brs o.unit=none):Calls Tryz.prog 59 #[.agg #[rv,bv],o.agg] w (RetTr (t,7) w):=by
 have HTT:=uZ (fun W (hW:Grew w W)=>(⟨hr.mono hW,hv.mono hW⟩:TrOk W rv bv t))
 have kF:=fun W (hW:Grew w W)=>refFind19 t.brs o.unit rv bv W (hv.mono hW)
 rw[ho] at kF
 unfold TFindEnd at kF
 dsimp only [Option.getD_none,Option.isSome_none,br0] at kF
 have HBX:=uZ (ref_box w o)
 obtain⟨Ar,cr,rfl,-⟩:=SlI.open_ hr
 obtain⟨Ab,cb,rfl,-⟩:=SlBr.open_ hv
 clear hr hv
 obtain⟨i,d,k,u,p,b,l,tt,m,x9,x10,x11⟩:=o
 unfold Opn.agg
 unfold Opn.cells at HBX
 dsimp only at HBX kF ho ⊢
 have KF:=uZ kF
 have Ho:=uZ ho
 clear kF ho
 have GA:=uZ ((((uX w).alloc (.cells [.slice Ar t.roots.length cr,.slice Ab t.brs.length cb].toArray 35)).alloc (.cells [.int .i64 i,.int .i64 d,.int .i64 k,.int .i64 u,.int .i64 p,.int .i64 b,.int .i64 l,.string tt,.string m,.int .i64 x9,.int .i64 x10,.int .i64 x11].toArray 25)).alloc (.cells [.slice none 0 0,.slice none 0 0].toArray 35))
 have HB:=uZ (fun W g=>HBX.out (.slice Ar t.roots.length cr) (.slice Ab t.brs.length cb) W g)
 clear HBX
 go_enter Tryz.func59,Tryz.ntmps59
 go_wp2_with fail
 generalize ((w.alloc (.cells [.slice Ar t.roots.length cr,.slice Ab t.brs.length cb].toArray 35)).alloc (.cells [.int .i64 i,.int .i64 d,.int .i64 k,.int .i64 u,.int .i64 p,.int .i64 b,.int .i64 l,.string tt,.string m,.int .i64 x9,.int .i64 x10,.int .i64 x11].toArray 25)).alloc (.cells [.slice none 0 0,.slice none 0 0].toArray 35)=WA at GA HB ⊢
 refine(KF.out _ GA.out).mono ?_
 rintro e w1 ⟨rfl,g1⟩
 have HG1:=uZ (GA.out.trans (g1.alloc (.cells #[.int .i64 0,.int .i64 0,.int .i64 0,.string ⟨#[]⟩,.string ⟨#[]⟩] 51)))
 obtain⟨⟨r0,b0,a0,a1,a2,a3,a4,a5,a6,a7,a8,a9,a10,a11⟩,hR⟩:=HB.out _ (g1.alloc (.cells #[.int .i64 0,.int .i64 0,.int .i64 0,.string ⟨#[]⟩,.string ⟨#[]⟩] 51))
 obtain⟨q0,q1,z0,z1⟩:=res4 hR
 have HR:=uZ hR
 clear hR
 clear g1
 dsimp only
 go_wp2_with fail
 obtain⟨p0,p1⟩:=res_cells (v0:=(.slice Ar t.roots.length cr)) (v1:=(.slice Ab t.brs.length cb)) q0 q1
 refine bodyPost_ret (v:=.tuple #[.agg #[.slice Ar t.roots.length cr,.slice Ab t.brs.length cb],.int .i64 7]) (by simp[results,Tryz.results59,go_sem,p0,p1]) rfl ?_
 exact laidTr HR.out b_37 HG1.out (HTT.out _ HG1.out)
set_option maxHeartbeats 16000000 in
set_option maxRecDepth 100000 in
theorem refLabel3 (t:Tr) (o:Opn) (rv bv:Value) (w:World) (hr:SlI w rv t.roots) (hv:SlBr w bv t.brs) (hf:FewBr t.brs) (hrl:t.roots.length≤1000000) {fb:Br} (ho:brFind t.brs o.unit=some fb) (hk:o.kind=3):Calls Tryz.prog 59 #[.agg #[rv,bv],o.agg] w (RetTr (chG t { fb with title:=o.title },0) w):=by
 have HTT:=uZ (fun W (hW:Grew w W)=>(⟨hr.mono hW,hv.mono hW⟩:TrOk W rv bv t))
 have kF:=fun W (hW:Grew w W)=>refFind19 t.brs o.unit rv bv W (hv.mono hW)
 rw[ho] at kF
 unfold TFindEnd at kF
 dsimp only [Option.getD_some,Option.isSome_some] at kF
 have KCH:=uZ (fun W ui up ul ut um (hW:Grew w W)=>ref21Change t ui up ul ut um rv bv W (hr.mono hW) (hv.mono hW) hf hrl)
 have HBX:=uZ (ref_box w o)
 obtain⟨Ar,cr,rfl,-⟩:=SlI.open_ hr
 obtain⟨Ab,cb,rfl,-⟩:=SlBr.open_ hv
 clear hr hv hf hrl
 obtain⟨i,d,k,u,p,b,l,tt,m,x9,x10,x11⟩:=o
 obtain⟨fi,fp,fl,ft,fm,fk⟩:=fb
 unfold Opn.agg
 unfold Opn.cells at HBX
 dsimp only at HBX kF ho hk ⊢
 have KF:=uZ kF
 have Ho:=uZ ho
 have Hk:=uZ hk
 clear kF ho hk
 have GA:=uZ ((((uX w).alloc (.cells [.slice Ar t.roots.length cr,.slice Ab t.brs.length cb].toArray 35)).alloc (.cells [.int .i64 i,.int .i64 d,.int .i64 k,.int .i64 u,.int .i64 p,.int .i64 b,.int .i64 l,.string tt,.string m,.int .i64 x9,.int .i64 x10,.int .i64 x11].toArray 25)).alloc (.cells [.slice none 0 0,.slice none 0 0].toArray 35))
 have HB:=uZ (fun W g=>HBX.out (.slice Ar t.roots.length cr) (.slice Ab t.brs.length cb) W g)
 clear HBX
 go_enter Tryz.func59,Tryz.ntmps59
 go_wp2_with fail
 generalize ((w.alloc (.cells [.slice Ar t.roots.length cr,.slice Ab t.brs.length cb].toArray 35)).alloc (.cells [.int .i64 i,.int .i64 d,.int .i64 k,.int .i64 u,.int .i64 p,.int .i64 b,.int .i64 l,.string tt,.string m,.int .i64 x9,.int .i64 x10,.int .i64 x11].toArray 25)).alloc (.cells [.slice none 0 0,.slice none 0 0].toArray 35)=WA at GA HB ⊢
 refine(KF.out _ GA.out).mono ?_
 rintro e w1 ⟨rfl,g1⟩
 have G1:=uZ (g1.alloc (.cells #[.int .i64 fi,.int .i64 fp,.int .i64 fl,.string ft,.string fm] 51))
 have HG1:=uZ (GA.out.trans G1.out)
 have G0:=uZ g1
 obtain⟨⟨r0,b0,a0,a1,a2,a3,a4,a5,a6,a7,a8,a9,a10,a11⟩,hR⟩:=HB.out _ G1.out
 obtain⟨q0,q1,z0,z1⟩:=res4 hR
 have HR:=uZ hR
 clear hR
 clear g1
 dsimp only
 have hkb:(k == 3)=true:=by simpa using Hk.out
 obtain⟨⟨r0y,b0y,a0y,a1y,a2y,a3y,a4y,a5y,a6y,a7y,a8y,a9y,a10y,a11y⟩,hRy⟩:=HB.out _ (G0.out.alloc (.cells #[.int .i64 fi,.int .i64 fp,.int .i64 fl,.string tt,.string fm] 51))
 obtain⟨q0y,q1y,z0y,z1y⟩:=res4 hRy
 have HRy:=uZ hRy
 clear hRy
 go_wp2_with fail
 refine(KCH.out _ _ _ _ _ _ (GA.out.trans (G0.out.alloc _))).mono ?_
 rintro e w2 ⟨rv2,bv2,rfl,ht2,g2⟩
 obtain⟨⟨A2,n2,k2,rfl⟩,B2,m2,l2,rfl⟩:=slices2 ht2
 have HT2:=uZ ht2
 have G2:=uZ ((G0.out.alloc (.cells #[.int .i64 fi,.int .i64 fp,.int .i64 fl,.string tt,.string fm] 51)).trans g2)
 have HG2:=uZ (GA.out.trans G2.out)
 clear r0 b0 a0 a1 a2 a3 a4 a5 a6 a7 a8 a9 a10 a11 q0 q1 z0 z1 HR
 clear r0y b0y a0y a1y a2y a3y a4y a5y a6y a7y a8y a9y a10y a11y q0y q1y z0y z1y HRy
 clear ht2 g2
 obtain⟨⟨r0,b0,a0,a1,a2,a3,a4,a5,a6,a7,a8,a9,a10,a11⟩,hR⟩:=HB.out _ G2.out
 obtain⟨q0,q1,z0,z1⟩:=res4 hR
 have HR:=uZ hR
 clear hR
 dsimp only
 go_wp2_with fail
 obtain⟨p0,p1⟩:=res_cells (v0:=(.slice A2 n2 k2)) (v1:=(.slice B2 m2 l2)) q0 q1
 refine bodyPost_ret (v:=.tuple #[.agg #[.slice A2 n2 k2,.slice B2 m2 l2],.int .i64 0]) (by simp[results,Tryz.results59,go_sem,p0,p1]) rfl ?_
 exact laidTr HR.out b_37 HG2.out HT2.out
set_option maxHeartbeats 16000000 in
set_option maxRecDepth 100000 in
theorem refLabelU (t:Tr) (o:Opn) (rv bv:Value) (w:World) (hr:SlI w rv t.roots) (hv:SlBr w bv t.brs) {fb:Br} (ho:brFind t.brs o.unit=some fb) (hk:o.kind≠3) (hu:∃ x,markedF t.brs o.mark=some x∧x.id≠o.unit):Calls Tryz.prog 59 #[.agg #[rv,bv],o.agg] w (RetTr (t,19) w):=by
 have HTT:=uZ (fun W (hW:Grew w W)=>(⟨hr.mono hW,hv.mono hW⟩:TrOk W rv bv t))
 have kF:=fun W (hW:Grew w W)=>refFind19 t.brs o.unit rv bv W (hv.mono hW)
 rw[ho] at kF
 unfold TFindEnd at kF
 dsimp only [Option.getD_some,Option.isSome_some] at kF
 have kM:=fun W (hW:Grew w W)=>refMarked t.brs o.mark rv bv W (hv.mono hW)
 obtain⟨x,hx,hxu⟩:=hu
 rw[hx] at kM
 unfold markV at kM
 dsimp only [Option.isSome_some] at kM
 have HBX:=uZ (ref_box w o)
 obtain⟨Ar,cr,rfl,-⟩:=SlI.open_ hr
 obtain⟨Ab,cb,rfl,-⟩:=SlBr.open_ hv
 clear hr hv
 obtain⟨i,d,k,u,p,b,l,tt,m,x9,x10,x11⟩:=o
 obtain⟨fi,fp,fl,ft,fm,fk⟩:=fb
 unfold Opn.agg
 unfold Opn.cells at HBX
 dsimp only at HBX kF ho hk kM hxu ⊢
 have KF:=uZ kF
 have Ho:=uZ ho
 have Hk:=uZ hk
 have KM:=uZ kM
 have Hxu:=uZ hxu
 clear kF ho hk kM hxu
 have GA:=uZ ((((uX w).alloc (.cells [.slice Ar t.roots.length cr,.slice Ab t.brs.length cb].toArray 35)).alloc (.cells [.int .i64 i,.int .i64 d,.int .i64 k,.int .i64 u,.int .i64 p,.int .i64 b,.int .i64 l,.string tt,.string m,.int .i64 x9,.int .i64 x10,.int .i64 x11].toArray 25)).alloc (.cells [.slice none 0 0,.slice none 0 0].toArray 35))
 have HB:=uZ (fun W g=>HBX.out (.slice Ar t.roots.length cr) (.slice Ab t.brs.length cb) W g)
 clear HBX
 go_enter Tryz.func59,Tryz.ntmps59
 go_wp2_with fail
 generalize ((w.alloc (.cells [.slice Ar t.roots.length cr,.slice Ab t.brs.length cb].toArray 35)).alloc (.cells [.int .i64 i,.int .i64 d,.int .i64 k,.int .i64 u,.int .i64 p,.int .i64 b,.int .i64 l,.string tt,.string m,.int .i64 x9,.int .i64 x10,.int .i64 x11].toArray 25)).alloc (.cells [.slice none 0 0,.slice none 0 0].toArray 35)=WA at GA HB ⊢
 refine(KF.out _ GA.out).mono ?_
 rintro e w1 ⟨rfl,g1⟩
 have G1:=uZ (g1.alloc (.cells #[.int .i64 fi,.int .i64 fp,.int .i64 fl,.string ft,.string fm] 51))
 have HG1:=uZ (GA.out.trans G1.out)
 have G0:=uZ g1
 obtain⟨⟨r0,b0,a0,a1,a2,a3,a4,a5,a6,a7,a8,a9,a10,a11⟩,hR⟩:=HB.out _ G1.out
 obtain⟨q0,q1,z0,z1⟩:=res4 hR
 have HR:=uZ hR
 clear hR
 clear g1
 dsimp only
 have hkb:(k == 3)=false:=by simpa using Hk.out
 go_wp2_with fail
 refine(KM.out _ HG1.out).mono ?_
 rintro e w2 ⟨rfl,g2⟩
 have G2:=uZ (G1.out.trans g2)
 have HG2:=uZ (GA.out.trans G2.out)
 clear r0 b0 a0 a1 a2 a3 a4 a5 a6 a7 a8 a9 a10 a11 q0 q1 z0 z1 HR
 clear g2
 obtain⟨⟨r0,b0,a0,a1,a2,a3,a4,a5,a6,a7,a8,a9,a10,a11⟩,hR⟩:=HB.out _ G2.out
 obtain⟨q0,q1,z0,z1⟩:=res4 hR
 have HR:=uZ hR
 clear hR
 have hxb:(x.id != u)=true:=by simpa using Hxu.out
 dsimp only
 go_wp2_with fail
 obtain⟨p0,p1⟩:=res_cells (v0:=(.slice Ar t.roots.length cr)) (v1:=(.slice Ab t.brs.length cb)) q0 q1
 refine bodyPost_ret (v:=.tuple #[.agg #[.slice Ar t.roots.length cr,.slice Ab t.brs.length cb],.int .i64 19]) (by simp[results,Tryz.results59,go_sem,p0,p1]) rfl ?_
 exact laidTr HR.out b_37 HG2.out (HTT.out _ HG2.out)
set_option maxHeartbeats 16000000 in
set_option maxRecDepth 100000 in
theorem refLabel4 (t:Tr) (o:Opn) (rv bv:Value) (w:World) (hr:SlI w rv t.roots) (hv:SlBr w bv t.brs) (hf:FewBr t.brs) (hrl:t.roots.length≤1000000) {fb:Br} (ho:brFind t.brs o.unit=some fb) (hk:o.kind≠3) (hu:markedF t.brs o.mark=none):Calls Tryz.prog 59 #[.agg #[rv,bv],o.agg] w (RetTr (chG t { fb with mark:=o.mark },0) w):=by
 have HTT:=uZ (fun W (hW:Grew w W)=>(⟨hr.mono hW,hv.mono hW⟩:TrOk W rv bv t))
 have kF:=fun W (hW:Grew w W)=>refFind19 t.brs o.unit rv bv W (hv.mono hW)
 rw[ho] at kF
 unfold TFindEnd at kF
 dsimp only [Option.getD_some,Option.isSome_some] at kF
 have KCH:=uZ (fun W ui up ul ut um (hW:Grew w W)=>ref21Change t ui up ul ut um rv bv W (hr.mono hW) (hv.mono hW) hf hrl)
 have kM:=fun W (hW:Grew w W)=>refMarked t.brs o.mark rv bv W (hv.mono hW)
 rw[hu] at kM
 unfold markV at kM
 dsimp only [Option.isSome_some,Option.isSome_none] at kM
 have HBX:=uZ (ref_box w o)
 obtain⟨Ar,cr,rfl,-⟩:=SlI.open_ hr
 obtain⟨Ab,cb,rfl,-⟩:=SlBr.open_ hv
 clear hr hv hf hrl
 obtain⟨i,d,k,u,p,b,l,tt,m,x9,x10,x11⟩:=o
 obtain⟨fi,fp,fl,ft,fm,fk⟩:=fb
 unfold Opn.agg
 unfold Opn.cells at HBX
 dsimp only at HBX kF ho hk kM ⊢
 have KF:=uZ kF
 have Ho:=uZ ho
 have Hk:=uZ hk
 have KM:=uZ kM
 clear kF ho hk kM
 have GA:=uZ ((((uX w).alloc (.cells [.slice Ar t.roots.length cr,.slice Ab t.brs.length cb].toArray 35)).alloc (.cells [.int .i64 i,.int .i64 d,.int .i64 k,.int .i64 u,.int .i64 p,.int .i64 b,.int .i64 l,.string tt,.string m,.int .i64 x9,.int .i64 x10,.int .i64 x11].toArray 25)).alloc (.cells [.slice none 0 0,.slice none 0 0].toArray 35))
 have HB:=uZ (fun W g=>HBX.out (.slice Ar t.roots.length cr) (.slice Ab t.brs.length cb) W g)
 clear HBX
 go_enter Tryz.func59,Tryz.ntmps59
 go_wp2_with fail
 generalize ((w.alloc (.cells [.slice Ar t.roots.length cr,.slice Ab t.brs.length cb].toArray 35)).alloc (.cells [.int .i64 i,.int .i64 d,.int .i64 k,.int .i64 u,.int .i64 p,.int .i64 b,.int .i64 l,.string tt,.string m,.int .i64 x9,.int .i64 x10,.int .i64 x11].toArray 25)).alloc (.cells [.slice none 0 0,.slice none 0 0].toArray 35)=WA at GA HB ⊢
 refine(KF.out _ GA.out).mono ?_
 rintro e w1 ⟨rfl,g1⟩
 have G1:=uZ (g1.alloc (.cells #[.int .i64 fi,.int .i64 fp,.int .i64 fl,.string ft,.string fm] 51))
 have HG1:=uZ (GA.out.trans G1.out)
 have HLO:=uZ g1.size
 obtain⟨⟨r0,b0,a0,a1,a2,a3,a4,a5,a6,a7,a8,a9,a10,a11⟩,hR⟩:=HB.out _ G1.out
 obtain⟨q0,q1,z0,z1⟩:=res4 hR
 have HR:=uZ hR
 clear hR
 have hB:=heap_allocE (a:=w1) (p:=(.cells #[.int .i64 fi,.int .i64 fp,.int .i64 fl,.string ft,.string fm] 51)) rfl
 clear g1
 dsimp only
 have hkb:(k == 3)=false:=by simpa using Hk.out
 go_wp2_with fail
 refine(KM.out _ HG1.out).mono ?_
 rintro e w2 ⟨rfl,g2⟩
 have G2:=uZ (G1.out.trans g2)
 have HG2:=uZ (GA.out.trans G2.out)
 replace hB:=uK g2 hB
 obtain⟨u0,u1,u2,u3,u4⟩:=unit_cells hB
 have f4:=frz_of hB 4
 have hlo:=HLO.out
 have hga:=GA.out.size
 clear r0 b0 a0 a1 a2 a3 a4 a5 a6 a7 a8 a9 a10 a11 q0 q1 z0 z1 HR
 clear g2 hB
 obtain⟨⟨r0,b0,a0,a1,a2,a3,a4,a5,a6,a7,a8,a9,a10,a11⟩,hR⟩:=HB.out _ G2.out
 obtain⟨q0,q1,z0,z1⟩:=res4 hR
 have HR:=uZ hR
 clear hR
 have hWA:w.heap.size+1+1<WA.heap.size:=(Array.getElem?_eq_some_iff.1 (HB.out WA (uX _)).2).1
 generalize w1.heap.size=BU at u0 u1 u2 u3 u4 f4 hlo ⊢
 have e0:¬ w.heap.size=BU:=by omega
 have e1:¬ w.heap.size+1=BU:=by omega
 exact c_33
set_option maxHeartbeats 16000000 in
set_option maxRecDepth 100000 in
theorem refLabelO (t:Tr) (o:Opn) (rv bv:Value) (w:World) (hr:SlI w rv t.roots) (hv:SlBr w bv t.brs) (hf:FewBr t.brs) (hrl:t.roots.length≤1000000) {fb:Br} (ho:brFind t.brs o.unit=some fb) (hk:o.kind≠3) {x:Br} (hu:markedF t.brs o.mark=some x) (hxu:x.id=o.unit):Calls Tryz.prog 59 #[.agg #[rv,bv],o.agg] w (RetTr (chG t { fb with mark:=o.mark },0) w):=by
 have HTT:=uZ (fun W (hW:Grew w W)=>(⟨hr.mono hW,hv.mono hW⟩:TrOk W rv bv t))
 have kF:=fun W (hW:Grew w W)=>refFind19 t.brs o.unit rv bv W (hv.mono hW)
 rw[ho] at kF
 unfold TFindEnd at kF
 dsimp only [Option.getD_some,Option.isSome_some] at kF
 have KCH:=uZ (fun W ui up ul ut um (hW:Grew w W)=>ref21Change t ui up ul ut um rv bv W (hr.mono hW) (hv.mono hW) hf hrl)
 have kM:=fun W (hW:Grew w W)=>refMarked t.brs o.mark rv bv W (hv.mono hW)
 rw[hu] at kM
 unfold markV at kM
 dsimp only [Option.isSome_some,Option.isSome_none] at kM
 have HBX:=uZ (ref_box w o)
 obtain⟨Ar,cr,rfl,-⟩:=SlI.open_ hr
 obtain⟨Ab,cb,rfl,-⟩:=SlBr.open_ hv
 clear hr hv hf hrl
 obtain⟨i,d,k,u,p,b,l,tt,m,x9,x10,x11⟩:=o
 obtain⟨fi,fp,fl,ft,fm,fk⟩:=fb
 unfold Opn.agg
 unfold Opn.cells at HBX
 dsimp only at HBX kF ho hk kM hxu ⊢
 have KF:=uZ kF
 have Ho:=uZ ho
 have Hk:=uZ hk
 have KM:=uZ kM
 have Hxu:=uZ hxu
 clear kF ho hk kM hxu
 have GA:=uZ ((((uX w).alloc (.cells [.slice Ar t.roots.length cr,.slice Ab t.brs.length cb].toArray 35)).alloc (.cells [.int .i64 i,.int .i64 d,.int .i64 k,.int .i64 u,.int .i64 p,.int .i64 b,.int .i64 l,.string tt,.string m,.int .i64 x9,.int .i64 x10,.int .i64 x11].toArray 25)).alloc (.cells [.slice none 0 0,.slice none 0 0].toArray 35))
 have HB:=uZ (fun W g=>HBX.out (.slice Ar t.roots.length cr) (.slice Ab t.brs.length cb) W g)
 clear HBX
 go_enter Tryz.func59,Tryz.ntmps59
 go_wp2_with fail
 generalize ((w.alloc (.cells [.slice Ar t.roots.length cr,.slice Ab t.brs.length cb].toArray 35)).alloc (.cells [.int .i64 i,.int .i64 d,.int .i64 k,.int .i64 u,.int .i64 p,.int .i64 b,.int .i64 l,.string tt,.string m,.int .i64 x9,.int .i64 x10,.int .i64 x11].toArray 25)).alloc (.cells [.slice none 0 0,.slice none 0 0].toArray 35)=WA at GA HB ⊢
 refine(KF.out _ GA.out).mono ?_
 rintro e w1 ⟨rfl,g1⟩
 have G1:=uZ (g1.alloc (.cells #[.int .i64 fi,.int .i64 fp,.int .i64 fl,.string ft,.string fm] 51))
 have HG1:=uZ (GA.out.trans G1.out)
 have HLO:=uZ g1.size
 obtain⟨⟨r0,b0,a0,a1,a2,a3,a4,a5,a6,a7,a8,a9,a10,a11⟩,hR⟩:=HB.out _ G1.out
 obtain⟨q0,q1,z0,z1⟩:=res4 hR
 have HR:=uZ hR
 clear hR
 have hB:=heap_allocE (a:=w1) (p:=(.cells #[.int .i64 fi,.int .i64 fp,.int .i64 fl,.string ft,.string fm] 51)) rfl
 clear g1
 dsimp only
 have hkb:(k == 3)=false:=by simpa using Hk.out
 go_wp2_with fail
 refine(KM.out _ HG1.out).mono ?_
 rintro e w2 ⟨rfl,g2⟩
 have G2:=uZ (G1.out.trans g2)
 have HG2:=uZ (GA.out.trans G2.out)
 replace hB:=uK g2 hB
 obtain⟨u0,u1,u2,u3,u4⟩:=unit_cells hB
 have f4:=frz_of hB 4
 have hlo:=HLO.out
 have hga:=GA.out.size
 clear r0 b0 a0 a1 a2 a3 a4 a5 a6 a7 a8 a9 a10 a11 q0 q1 z0 z1 HR
 clear g2 hB
 obtain⟨⟨r0,b0,a0,a1,a2,a3,a4,a5,a6,a7,a8,a9,a10,a11⟩,hR⟩:=HB.out _ G2.out
 obtain⟨q0,q1,z0,z1⟩:=res4 hR
 have HR:=uZ hR
 clear hR
 have hWA:w.heap.size+1+1<WA.heap.size:=(Array.getElem?_eq_some_iff.1 (HB.out WA (uX _)).2).1
 generalize w1.heap.size=BU at u0 u1 u2 u3 u4 f4 hlo ⊢
 have e0:¬ w.heap.size=BU:=by omega
 have e1:¬ w.heap.size+1=BU:=by omega
 have hxb:(x.id != u)=false:=by simpa using Hxu.out
 exact c_33
end Go.Proofs.YtafncfomiolmgaaGreatDoor
namespace Go.Proofs.YtafncfomiolmgaaGreatDoor
open Go.RowKit
def remR (t:Tr) (o:Opn):Tr × Int:=match brFind t.brs o.unit with
 | none=>(t,7)
 | some fb=>if fb.kids≠[] then(t,11) else(removeT t o fb,0)
def labR (t:Tr) (o:Opn):Tr × Int:=match brFind t.brs o.unit with
 | none=>(t,7)
 | some _=>if o.kind=3 then(setU t o.unit fun b=>{ b with title:=o.title },0) else if usedB t o.mark o.unit=true then(t,19) else(setU t o.unit fun b=>{ b with mark:=o.mark },0)
section
variable (t:Tr) (o:Opn) (rv bv:Value) (w:World) (hr:SlI w rv t.roots) (hv:SlBr w bv t.brs) (hf:FewBr t.brs) (hrl:t.roots.length≤1000000) (hT:RightT t)
include hr hv hf hrl hT
theorem refRemove:Calls Tryz.prog 58 #[.agg #[rv,bv],o.agg] w (RetTr (remR t o) w):=by
 have hs:=right_sound hT
 unfold remR
 cases ho:brFind t.brs o.unit with
 | none=>exact refRemoveNo t o rv bv w hr hv ho
 | some fb =>
  dsimp only
  have hin:=find_in ho
  have hk:childs t o.unit=fb.kids:=by
   rw[← hin.2]
   exact childs_of hs.asc hin.1 (unit_pos (hs.units fb hin.1))
  by_cases h:fb.kids=[]
  ·rw[if_neg (fun k=>k h)]
   have h1:=refRemoveYes t o rv bv w hr hv hf hrl ho (hk.trans h)
   rw[setG_eq (no_zero hs)] at h1
   exact h1
  ·rw[if_pos h]
   exact refRemoveKids t o rv bv w hr hv hf hrl ho (by rw[hk];exact h)
theorem refLabel:Calls Tryz.prog 59 #[.agg #[rv,bv],o.agg] w (RetTr (labR t o) w):=by
 have hs:=right_sound hT
 unfold labR
 cases ho:brFind t.brs o.unit with
 | none=>exact refLabelNo t o rv bv w hr hv ho
 | some fb =>
  dsimp only
  have hin:=find_in ho
  have e3:chG t { fb with title:=o.title }=setU t o.unit fun b=>{ b with title:=o.title }:=(chG_set hs.asc hin.1 (fun b=>{ b with title:=o.title }) (fun _=>⟨rfl,rfl⟩)).trans (by rw[hin.2])
  have e4:chG t { fb with mark:=o.mark }=setU t o.unit fun b=>{ b with mark:=o.mark }:=(chG_set hs.asc hin.1 (fun b=>{ b with mark:=o.mark }) (fun _=>⟨rfl,rfl⟩)).trans (by rw[hin.2])
  by_cases h3:o.kind=3
  ·rw[if_pos h3,← e3]
   exact refLabel3 t o rv bv w hr hv hf hrl ho h3
  ·rw[if_neg h3]
   have hu:=used_first hs o.mark o.unit
   rw[show(if o.mark.toList.isEmpty then none else t.brs.find? fun b=>b.mark.toList == o.mark.toList)=markedF t.brs o.mark from rfl] at hu
   cases hm:markedF t.brs o.mark with
   | none =>
    rw[hm] at hu
    dsimp only at hu
    rw[hu,if_neg b_36,← e4]
    exact refLabel4 t o rv bv w hr hv hf hrl ho h3 hm
   | some x =>
    rw[hm] at hu
    dsimp only at hu
    by_cases hx:x.id=o.unit
    ·rw[hu,if_neg (by simp[hx]),← e4]
     exact refLabelO t o rv bv w hr hv hf hrl ho h3 hm hx
    ·rw[hu,if_pos (by simpa using hx)]
     exact refLabelU t o rv bv w hr hv ho h3 ⟨x,hm,hx⟩
end
end Go.Proofs.YtafncfomiolmgaaGreatDoor
namespace Go.Proofs.YtafncfomiolmgaaGreatDoor
open Go.RowKit
def creR (t:Tr) (o:Opn):Tr × Int:=if faultC t o=0 then(createT t o,0) else(t,faultC t o)
def putB (t:Tr) (o:Opn) (PUT:List Int):Tr:=⟨(setG t o.parent PUT).roots,insB (newBr o) (setG t o.parent PUT).brs⟩
theorem create_cases {t:Tr} {o:Opn} (hT:RightT t) (ho:brFind t.brs o.unit=none) (Q:Tr × Int→Prop)
  (c1:∀ n,levR t o.parent o.level=n→n≠0→Q (t,n))
  (c2:levR t o.parent o.level=0→o.before≠0→o.before∉childs t o.parent→Q (t,7))
  (c3:levR t o.parent o.level=0→(o.before=0∨(o.before≠0∧o.before∈childs t o.parent))→∀ x,markedF t.brs o.mark=some x→Q (t,19))
  (c4:levR t o.parent o.level=0→(o.before=0∨(o.before≠0∧o.before∈childs t o.parent))→markedF t.brs o.mark=none→256≤t.brs.length→Q (t,8))
  (c5:levR t o.parent o.level=0→(o.before=0∨(o.before≠0∧o.before∈childs t o.parent))→markedF t.brs o.mark=none→t.brs.length<256→∀ PUT,putR o.unit o.before (childs t o.parent)++(if o.before=0 then[o.unit] else[])=PUT→PUT.length≤1000000→Q (putB t o PUT,0)):Q (creR t o):=by
 have hs:=right_sound hT
 have hL:levR t o.parent o.level=if o.parent≠0∧(brFind t.brs o.parent).isSome=false then 7 else if standsB t o.parent o.level=false then 18 else 0:=by
  by_cases hp:o.parent≠0∧(brFind t.brs o.parent).isSome=false
  ·rw[if_pos hp]
   unfold levR
   rw[if_neg hp.1]
   have:brFind t.brs o.parent=none:=by simpa using hp.2
   rw[this]
  ·rw[if_neg hp]
   have hpar:o.parent=0∨∃ b∈t.brs,b.id=o.parent:=by
    by_cases h0:o.parent=0
    ·exact .inl h0
    ·cases hq:brFind t.brs o.parent with
     | none=>exact absurd ⟨h0,by rw[hq];rfl⟩ hp
     | some q =>
      have:=find_in hq
      exact .inr ⟨q,this.1,this.2⟩
   rw[lev_stands hpar]
   cases standsB t o.parent o.level<;>rfl
 have hF:faultC t o=if levR t o.parent o.level≠0 then levR t o.parent o.level else if o.before≠0∧o.before∉childs t o.parent then 7 else if usedB t o.mark 0=true then 19 else if 256≤t.brs.length then 8 else 0:=by
  unfold faultC
  rw[ho,if_neg b_38,hL]
  by_cases h1:o.parent≠0∧(brFind t.brs o.parent).isSome=false
  ·rw[if_pos h1,if_pos h1,if_pos b_36]
  ·rw[if_neg h1,if_neg h1]
   by_cases h2:standsB t o.parent o.level=false
   ·rw[if_pos h2,if_pos h2,if_pos b_36]
   ·rw[if_neg h2,if_neg h2,if_neg (show ¬ ((0:Int)≠0) from fun h=>h rfl)]
 have hu:usedB t o.mark 0=(markedF t.brs o.mark).isSome:=by
  have hu:=used_first hs o.mark 0
  rw[show(if o.mark.toList.isEmpty then none else t.brs.find? fun b=>b.mark.toList == o.mark.toList)=markedF t.brs o.mark from rfl] at hu
  cases hm:markedF t.brs o.mark with
  | none =>
   rw[hm] at hu
   exact hu
  | some x =>
   rw[hm] at hu
   dsimp only at hu
   have hx:x∈t.brs:=by
    unfold markedF at hm
    split at hm
    ·cases hm
    ·exact List.mem_of_find?_eq_some hm
   have h0:=no_zero hs x hx
   rw[hu]
   simpa using h0
 rw[hu] at hF
 unfold creR
 by_cases e1:levR t o.parent o.level=0
 ·rw[if_neg (fun h=>h e1)] at hF
  by_cases e2:o.before≠0∧o.before∉childs t o.parent
  ·rw[if_pos e2] at hF
   rw[hF,if_neg b_36]
   exact c2 e1 e2.1 e2.2
  ·rw[if_neg e2] at hF
   have e2':o.before=0∨(o.before≠0∧o.before∈childs t o.parent):=by
    by_cases h0:o.before=0
    ·exact .inl h0
    ·exact .inr ⟨h0, by by_cases hm : o.before ∈ childs t o.parent; · exact hm
                        · exact absurd ⟨h0, hm⟩ e2⟩
   cases e3:markedF t.brs o.mark with
   | some x =>
    rw[e3,if_pos (show(some x).isSome=true from rfl)] at hF
    rw[hF,if_neg b_36]
    exact c3 e1 e2' x e3
   | none =>
    rw[e3,if_neg b_38] at hF
    by_cases e4:256≤t.brs.length
    ·rw[if_pos e4] at hF
     rw[hF,if_neg b_36]
     exact c4 e1 e2' e3 e4
    ·rw[if_neg e4] at hF
     rw[hF,if_pos rfl]
     have hpar:o.parent=0∨∃ b∈t.brs,b.id=o.parent:=by
      by_cases h0:o.parent=0
      ·exact .inl h0
      ·cases hq:brFind t.brs o.parent with
       | none =>
        rw[if_pos ⟨h0,by rw[hq];rfl⟩] at hL
        rw[hL] at e1
        exact absurd e1 b_36
       | some q =>
        have:=find_in hq
        exact .inr ⟨q,this.1,this.2⟩
     obtain⟨hnd,h0⟩:=childs_nd hs hpar
     have hput:=putR_is (n:=o.unit) (before:=o.before) hnd h0
     have hlen:(putF o.unit o.before (childs t o.parent)).length≤1000000:=by
      have h1:=putF_few.putF_le o.unit o.before (childs t o.parent)
      have h3:=kids_few (((sound_parts t).1 hs).2 o.parent hpar)
      omega
     have:=c5 e1 e2' e3 b_37 _ hput.symm hlen
     have he:putB t o (putF o.unit o.before (childs t o.parent))=createT t o:=by
      unfold putB
      rw[setG_eq (no_zero hs)]
      rfl
     rw[he] at this
     exact this
 ·rw[if_pos e1] at hF
  rw[hF,if_neg e1]
  exact c1 _ rfl e1
end Go.Proofs.YtafncfomiolmgaaGreatDoor