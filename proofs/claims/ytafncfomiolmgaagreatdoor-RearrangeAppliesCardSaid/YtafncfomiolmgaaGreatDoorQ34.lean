/- Lemmas on what the functions of the program and of the library compute: Rf9, PlainRm, Rf10. The conditions stand at each. -/
import Derived.Test.YtafncfomiolmgaaGreatDoorQ33
import Derived.Test.YtafncfomiolmgaaGreatDoorQ32
import Derived.Deep.CutRange
import Derived.Deep.RegionHeld3
import Derived.Test.YtafncfomiolmgaaGreatDoorQ10
import Derived.Test.YtafncfomiolmgaaGreatDoorQ9
import Derived.Test.YtafncfomiolmgaaGreatDoorQ17
import Derived.Test.YtafncfomiolmgaaGreatDoorQ16
namespace Go.Proofs.YtafncfomiolmgaaGreatDoor
open Go.RowKit
def SetCut (W0:World) (T:Tr) (s8:Value) (wx:World):Prop:=∃ X rv bv,s8=.pointer (some ⟨X,0,none⟩)∧wx.heap[X]? = some (.cells #[rv,bv] 35 (0,0))∧W0.heap.size≤X∧TrOk wx rv bv T∧Grew W0 wx
theorem set_meet {W0 W:World} {T:Tr} {X:Nat} {rv bv:Value} (hX:W.heap[X]? = some (.cells #[.slice none 0 0,.slice none 0 0] 35 (0,0))) (hlo:W0.heap.size≤X) (hG:Grew W0 W) (h:TrOk W rv bv T):SetCut W0 T (.pointer (some ⟨X,0,none⟩)) ((W.setCell ⟨X,0,none⟩ rv).setCell ⟨X,1,none⟩ bv):=by
 have h1:=heap_setCell_same W X 0 _ _ rv hX
 have h2:=heap_setCell_same (W.setCell ⟨X,0,none⟩ rv) X 1 _ _ bv h1
 exact⟨X,rv,bv,rfl,by simpa using h2,hlo,h.setT hX,(hG.setCell hlo _).setCell hlo _⟩
theorem set_meet2 {W0 W:World} {T:Tr} {rv bv:Value} (hG:Grew W0 W) (h:TrOk W rv bv T):SetCut W0 T (.pointer (some ⟨W.heap.size,0,none⟩)) (W.alloc (.cells #[rv,bv] 35)) :=
 ⟨_,rv,bv,rfl,heap_allocE rfl,hG.size,h.mono ((uX _).alloc _),hG.alloc _⟩
theorem zt_facts4 {w:World} {X:Nat} {rv bv:Value} (h:w.heap[X]? = some (.cells #[rv,bv] 35 (0,0))):w.cell? ⟨X,0,none⟩=some rv∧w.cell? ⟨X,1,none⟩=some bv∧w.frozen? ⟨X,0,none⟩=false∧w.frozen? ⟨X,1,none⟩=false:=by
 simp[World.cell?,World.frozen?,h]
def KeptB (W0:World) (cs:List BrC) (L:List Br):Prop:=cs.length=L.length∧∀ i (h:i<cs.length) (h':i<L.length),BrOk W0 cs[i] L[i]
theorem KeptB.snoc {W0:World} {cs:List BrC} {L:List Br} {c:BrC} {b:Br} (h:KeptB W0 cs L) (hc:BrOk W0 c b):KeptB W0 (cs++[c]) (L++[b]):=by
 refine⟨by simp[h.1],fun i hi hi'=>?_⟩
 by_cases hik:i<cs.length
 ·rw[List.getElem_append_left hik,List.getElem_append_left (by rw[← h.1];exact hik)]
  exact h.2 i hik _
 ·have hl:=h.1
  have:i=cs.length:=by simp at hi;omega
  subst this
  rw[List.getElem_append_right (Nat.le_refl _),List.getElem_append_right b_37]
  simp only [hl,Nat.sub_self,List.getElem_cons_zero]
  exact hc
theorem childs_few {t:Tr} (hf:FewBr t.brs) (hrl:t.roots.length≤1000000) (p:Int):(childs t p).length≤1000000:=by
 unfold childs
 split
 ·exact hrl
 ·split
  ·simp
  ·rename_i b hb
   obtain⟨i,hi,e⟩:=List.mem_iff_getElem.1 (find_in hb).1
   rw[← e]
   exact hf.2 i hi
def notB (n:Int) (l:List Br):List Br:=l.filter fun b=>!(b.id == n)
theorem notB_take (l:List Br) (n:Int) (k:Nat) (hk:k<l.length):notB n (l.take (k+1))=notB n (l.take k)++(if l[k].id == n then[] else[l[k]]):=by
 unfold notB
 rw[List.take_succ_eq_append_getElem hk,List.filter_append]
 congr 1
 by_cases h:(l[k].id == n)=true
 ·simp[h]
 ·simp[h]
theorem s14_grow {W W2:World} {H:Nat} {r b v0 v1 v2 v3 v4 v5 v6 v7 v8 v9 v10 v11:Value} {Y:Nat} {x:Value} (h:(W.cell? ⟨H,0,none⟩=some (r)∧W.cell? ⟨H,1,none⟩=some (b)∧W.cell? ⟨H+1,0,none⟩=some (v0)∧W.cell? ⟨H+1,1,none⟩=some (v1)∧W.cell? ⟨H+1,2,none⟩=some (v2)∧W.cell? ⟨H+1,3,none⟩=some (v3)∧W.cell? ⟨H+1,4,none⟩=some (v4)∧W.cell? ⟨H+1,5,none⟩=some (v5)∧W.cell? ⟨H+1,6,none⟩=some (v6)∧W.cell? ⟨H+1,7,none⟩=some (v7)∧W.cell? ⟨H+1,8,none⟩=some (v8)∧W.cell? ⟨H+1,9,none⟩=some (v9)∧W.cell? ⟨H+1,10,none⟩=some (v10)∧W.cell? ⟨H+1,11,none⟩=some (v11))∧W.cell? ⟨Y,1,none⟩=some x) (g:Grew W W2):(W2.cell? ⟨H,0,none⟩=some (r)∧W2.cell? ⟨H,1,none⟩=some (b)∧W2.cell? ⟨H+1,0,none⟩=some (v0)∧W2.cell? ⟨H+1,1,none⟩=some (v1)∧W2.cell? ⟨H+1,2,none⟩=some (v2)∧W2.cell? ⟨H+1,3,none⟩=some (v3)∧W2.cell? ⟨H+1,4,none⟩=some (v4)∧W2.cell? ⟨H+1,5,none⟩=some (v5)∧W2.cell? ⟨H+1,6,none⟩=some (v6)∧W2.cell? ⟨H+1,7,none⟩=some (v7)∧W2.cell? ⟨H+1,8,none⟩=some (v8)∧W2.cell? ⟨H+1,9,none⟩=some (v9)∧W2.cell? ⟨H+1,10,none⟩=some (v10)∧W2.cell? ⟨H+1,11,none⟩=some (v11))∧W2.cell? ⟨Y,1,none⟩=some x:=⟨law_grow h.1 g,uQ g h.2⟩
set_option maxHeartbeats 16000000 in
set_option maxRecDepth 100000 in
theorem refRemoveNo (t:Tr) (o:Opn) (rv bv:Value) (w:World) (hr:SlI w rv t.roots) (hv:SlBr w bv t.brs) (ho:brFind t.brs o.unit=none):Calls Tryz.prog 58 #[.agg #[rv,bv],o.agg] w (RetTr (t,7) w):=by
 have HTT:=uZ (fun W (hW:Grew w W)=>(⟨hr.mono hW,hv.mono hW⟩:TrOk W rv bv t))
 have kF:=fun W (hW:Grew w W)=>refFind19 t.brs o.unit rv bv W (hv.mono hW)
 rw[ho] at kF
 unfold TFindEnd at kF
 dsimp only [Option.getD_none,Option.isSome_none,br0] at kF
 have HBX:=uZ (ref_box w o)
 obtain⟨Ar,cr,rfl,-⟩:=SlI.open_ hr
 obtain⟨Ab,cb,rfl,-⟩:=SlBr.open_ hv
 clear hr hv
 obtain⟨i,d,k,u,p,b,l,tt,m,x9,x10,x11⟩:=o
 unfold Opn.agg
 unfold Opn.cells at HBX
 dsimp only at HBX kF ho ⊢
 have KF:=uZ kF
 have Ho:=uZ ho
 clear kF ho
 have GA:=uZ ((((uX w).alloc (.cells [.slice Ar t.roots.length cr,.slice Ab t.brs.length cb].toArray 35)).alloc (.cells [.int .i64 i,.int .i64 d,.int .i64 k,.int .i64 u,.int .i64 p,.int .i64 b,.int .i64 l,.string tt,.string m,.int .i64 x9,.int .i64 x10,.int .i64 x11].toArray 25)).alloc (.cells [.slice none 0 0,.slice none 0 0].toArray 35))
 have HB:=uZ (fun W g=>HBX.out (.slice Ar t.roots.length cr) (.slice Ab t.brs.length cb) W g)
 clear HBX
 go_enter Tryz.func58,Tryz.ntmps58
 go_wp2_with fail
 generalize ((w.alloc (.cells [.slice Ar t.roots.length cr,.slice Ab t.brs.length cb].toArray 35)).alloc (.cells [.int .i64 i,.int .i64 d,.int .i64 k,.int .i64 u,.int .i64 p,.int .i64 b,.int .i64 l,.string tt,.string m,.int .i64 x9,.int .i64 x10,.int .i64 x11].toArray 25)).alloc (.cells [.slice none 0 0,.slice none 0 0].toArray 35)=WA at GA HB ⊢
 refine(KF.out _ GA.out).mono ?_
 rintro e w1 ⟨rfl,g1⟩
 have HG1:=uZ (GA.out.trans (g1.alloc (.cells #[.int .i64 0,.int .i64 0,.int .i64 0,.string ⟨#[]⟩,.string ⟨#[]⟩] 51)))
 obtain⟨⟨r0,b0,a0,a1,a2,a3,a4,a5,a6,a7,a8,a9,a10,a11⟩,hR⟩:=HB.out _ (g1.alloc (.cells #[.int .i64 0,.int .i64 0,.int .i64 0,.string ⟨#[]⟩,.string ⟨#[]⟩] 51))
 obtain⟨q0,q1,z0,z1⟩:=res4 hR
 have HR:=uZ hR
 clear hR
 clear g1
 dsimp only
 go_wp2_with fail
 obtain⟨p0,p1⟩:=res_cells (v0:=(.slice Ar t.roots.length cr)) (v1:=(.slice Ab t.brs.length cb)) q0 q1
 refine bodyPost_ret (v:=.tuple #[.agg #[.slice Ar t.roots.length cr,.slice Ab t.brs.length cb],.int .i64 7]) (by simp[results,Tryz.results58,go_sem,p0,p1]) rfl ?_
 exact laidTr HR.out b_37 HG1.out (HTT.out _ HG1.out)
set_option maxHeartbeats 16000000 in
set_option maxRecDepth 100000 in
theorem refRemoveKids (t:Tr) (o:Opn) (rv bv:Value) (w:World) (hr:SlI w rv t.roots) (hv:SlBr w bv t.brs) (hf:FewBr t.brs) (hrl:t.roots.length≤1000000) {fb:Br} (ho:brFind t.brs o.unit=some fb) (hk:childs t o.unit≠[]):Calls Tryz.prog 58 #[.agg #[rv,bv],o.agg] w (RetTr (t,11) w):=by
 have HTT:=uZ (fun W (hW:Grew w W)=>(⟨hr.mono hW,hv.mono hW⟩:TrOk W rv bv t))
 have kF:=fun W (hW:Grew w W)=>refFind19 t.brs o.unit rv bv W (hv.mono hW)
 rw[ho] at kF
 unfold TFindEnd at kF
 dsimp only [Option.getD_some,Option.isSome_some] at kF
 have kch:=fun W (hW:Grew w W)=>refChildren t.roots t.brs o.unit rv bv W (hr.mono hW) (hv.mono hW) hf hrl
 rw[show childs ⟨t.roots,t.brs⟩ o.unit=childs t o.unit from rfl] at kch
 have hlen:(0:Int)<((childs t o.unit).length:Int):=by have:=List.length_pos_iff.2 hk;omega
 generalize childs t o.unit=KS at kch hlen
 have HBX:=uZ (ref_box w o)
 obtain⟨Ar,cr,rfl,-⟩:=SlI.open_ hr
 obtain⟨Ab,cb,rfl,-⟩:=SlBr.open_ hv
 clear hr hv hf hrl
 obtain⟨i,d,k,u,p,b,l,tt,m,x9,x10,x11⟩:=o
 obtain⟨fi,fp,fl,ft,fm,fk⟩:=fb
 unfold Opn.agg
 unfold Opn.cells at HBX
 dsimp only at HBX kF kch ⊢
 have KF:=uZ kF
 have Kch:=uZ kch
 clear kF kch
 have GA:=uZ ((((uX w).alloc (.cells [.slice Ar t.roots.length cr,.slice Ab t.brs.length cb].toArray 35)).alloc (.cells [.int .i64 i,.int .i64 d,.int .i64 k,.int .i64 u,.int .i64 p,.int .i64 b,.int .i64 l,.string tt,.string m,.int .i64 x9,.int .i64 x10,.int .i64 x11].toArray 25)).alloc (.cells [.slice none 0 0,.slice none 0 0].toArray 35))
 have HB:=uZ (fun W g=>HBX.out (.slice Ar t.roots.length cr) (.slice Ab t.brs.length cb) W g)
 clear HBX
 go_enter Tryz.func58,Tryz.ntmps58
 go_wp2_with fail
 generalize ((w.alloc (.cells [.slice Ar t.roots.length cr,.slice Ab t.brs.length cb].toArray 35)).alloc (.cells [.int .i64 i,.int .i64 d,.int .i64 k,.int .i64 u,.int .i64 p,.int .i64 b,.int .i64 l,.string tt,.string m,.int .i64 x9,.int .i64 x10,.int .i64 x11].toArray 25)).alloc (.cells [.slice none 0 0,.slice none 0 0].toArray 35)=WA at GA HB ⊢
 refine(KF.out _ GA.out).mono ?_
 rintro e w1 ⟨rfl,g1⟩
 have G1:=uZ (g1.alloc (.cells #[.int .i64 fi,.int .i64 fp,.int .i64 fl,.string ft,.string fm] 51))
 have HG1:=uZ (GA.out.trans G1.out)
 obtain⟨⟨r0,b0,a0,a1,a2,a3,a4,a5,a6,a7,a8,a9,a10,a11⟩,hR⟩:=HB.out _ G1.out
 obtain⟨q0,q1,z0,z1⟩:=res4 hR
 have HR:=uZ hR
 clear hR
 clear g1
 dsimp only
 go_wp2_with fail
 refine(Kch.out _ HG1.out).mono ?_
 rintro e w2 ⟨v2,rfl,hv2,g2,-⟩
 obtain⟨A2,k2,rfl,-⟩:=SlI.open_ hv2
 have G2:=uZ (G1.out.trans g2)
 have HG2:=uZ (GA.out.trans G2.out)
 clear r0 b0 a0 a1 a2 a3 a4 a5 a6 a7 a8 a9 a10 a11 q0 q1 z0 z1 HR g2 hv2
 obtain⟨⟨r0,b0,a0,a1,a2,a3,a4,a5,a6,a7,a8,a9,a10,a11⟩,hR⟩:=HB.out _ G2.out
 obtain⟨q0,q1,z0,z1⟩:=res4 hR
 have HR:=uZ hR
 clear hR
 dsimp only
 go_wp2_with fail
 obtain⟨p0,p1⟩:=res_cells (v0:=(.slice Ar t.roots.length cr)) (v1:=(.slice Ab t.brs.length cb)) q0 q1
 refine bodyPost_ret (v:=.tuple #[.agg #[.slice Ar t.roots.length cr,.slice Ab t.brs.length cb],.int .i64 11]) (by simp[results,Tryz.results58,go_sem,p0,p1]) rfl ?_
 exact laidTr HR.out b_37 HG2.out (HTT.out _ HG2.out)
set_option maxHeartbeats 16000000 in
set_option maxRecDepth 100000 in
theorem refRemoveYes (t:Tr) (o:Opn) (rv bv:Value) (w:World) (hr:SlI w rv t.roots) (hv:SlBr w bv t.brs) (hf:FewBr t.brs) (hrl:t.roots.length≤1000000) {fb:Br} (ho:brFind t.brs o.unit=some fb) (hk:childs t o.unit=[]):Calls Tryz.prog 58 #[.agg #[rv,bv],o.agg] w (RetTr (⟨(setG t fb.parent (withoutF o.unit (childs t fb.parent))).roots,notB o.unit (setG t fb.parent (withoutF o.unit (childs t fb.parent))).brs⟩,0) w):=by
 have HTT:=uZ (fun W (hW:Grew w W)=>(⟨hr.mono hW,hv.mono hW⟩:TrOk W rv bv t))
 have kF:=fun W (hW:Grew w W)=>refFind19 t.brs o.unit rv bv W (hv.mono hW)
 rw[ho] at kF
 unfold TFindEnd at kF
 dsimp only [Option.getD_some,Option.isSome_some] at kF
 have kch:=fun W (hW:Grew w W)=>refChildren t.roots t.brs o.unit rv bv W (hr.mono hW) (hv.mono hW) hf hrl
 rw[show childs ⟨t.roots,t.brs⟩ o.unit=[] from hk] at kch
 have KCP:=uZ (fun W (hW:Grew w W)=>refChildren t.roots t.brs fb.parent rv bv W (hr.mono hW) (hv.mono hW) hf hrl)
 have hkl:=childs_few hf hrl fb.parent
 have KST:=uZ (fun ks kv W (hW:Grew w W) (h:SlI W kv ks)=>ref21Set t fb.parent ks rv bv kv W (hr.mono hW) (hv.mono hW) hf hrl h)
 have hTl:(setG t fb.parent (withoutF o.unit (childs t fb.parent))).brs.length≤1000000:=by unfold setG;rw[List.length_map];exact hf.1
 have KWO:=uZ (fun v W (h:SlI W v (childs t fb.parent))=>ref21Without (childs t fb.parent) o.unit v W h hkl)
 have kcp:=fun W hW=>KCP.out W hW
 rw[show childs ⟨t.roots,t.brs⟩ fb.parent=childs t fb.parent from rfl] at kcp
 have kwo:=fun v W h=>KWO.out v W h
 have kst:=fun kv W hW h=>KST.out (withoutF o.unit (childs t fb.parent)) kv W hW h
 clear KCP KWO KST
 obtain⟨i0,hi0,hz0,hz1,hz2⟩:=info_parts cinfoB
 generalize setG t fb.parent (withoutF o.unit (childs t fb.parent))=T at kst hTl ⊢
 generalize withoutF o.unit (childs t fb.parent)=KW at kwo kst
 generalize childs t fb.parent=KP at kcp kwo
 skip
 have HBX:=uZ (ref_box w o)
 obtain⟨Ar,cr,rfl,-⟩:=SlI.open_ hr
 obtain⟨Ab,cb,rfl,-⟩:=SlBr.open_ hv
 clear hr hv hf hrl
 obtain⟨i,d,k,u,p,b,l,tt,m,x9,x10,x11⟩:=o
 obtain⟨fi,fp,fl,ft,fm,fk⟩:=fb
 unfold Opn.agg
 unfold Opn.cells at HBX
 dsimp only at HBX kF kch kcp kwo kst ⊢
 have KF:=uZ kF
 have Kch:=uZ kch
 have Kcp:=uZ kcp
 have Kwo:=uZ kwo
 have Kst:=uZ kst
 clear kF kch kcp kwo kst
 have GA:=uZ ((((uX w).alloc (.cells [.slice Ar t.roots.length cr,.slice Ab t.brs.length cb].toArray 35)).alloc (.cells [.int .i64 i,.int .i64 d,.int .i64 k,.int .i64 u,.int .i64 p,.int .i64 b,.int .i64 l,.string tt,.string m,.int .i64 x9,.int .i64 x10,.int .i64 x11].toArray 25)).alloc (.cells [.slice none 0 0,.slice none 0 0].toArray 35))
 have HB:=uZ (fun W g=>HBX.out (.slice Ar t.roots.length cr) (.slice Ab t.brs.length cb) W g)
 clear HBX
 go_enter Tryz.func58,Tryz.ntmps58
 go_wp2_with fail
 generalize ((w.alloc (.cells [.slice Ar t.roots.length cr,.slice Ab t.brs.length cb].toArray 35)).alloc (.cells [.int .i64 i,.int .i64 d,.int .i64 k,.int .i64 u,.int .i64 p,.int .i64 b,.int .i64 l,.string tt,.string m,.int .i64 x9,.int .i64 x10,.int .i64 x11].toArray 25)).alloc (.cells [.slice none 0 0,.slice none 0 0].toArray 35)=WA at GA HB ⊢
 refine(KF.out _ GA.out).mono ?_
 rintro e w1 ⟨rfl,g1⟩
 have G1:=uZ (g1.alloc (.cells #[.int .i64 fi,.int .i64 fp,.int .i64 fl,.string ft,.string fm] 51))
 have HG1:=uZ (GA.out.trans G1.out)
 have HUB:=uZ (unit_cells (heap_allocE (a:=w1) (p:=(.cells #[.int .i64 fi,.int .i64 fp,.int .i64 fl,.string ft,.string fm] 51)) rfl)).2.1
 obtain⟨⟨r0,b0,a0,a1,a2,a3,a4,a5,a6,a7,a8,a9,a10,a11⟩,hR⟩:=HB.out _ G1.out
 obtain⟨q0,q1,z0,z1⟩:=res4 hR
 have HR:=uZ hR
 clear hR
 clear g1
 dsimp only
 go_wp2_with fail
 refine(Kch.out _ HG1.out).mono ?_
 rintro e w2 ⟨v2,rfl,hv2,g2,-⟩
 obtain⟨A2,k2,rfl,-⟩:=SlI.open_ hv2
 have G2:=uZ (G1.out.trans g2)
 have HG2:=uZ (GA.out.trans G2.out)
 replace HUB:=uZ (uQ g2 HUB.out)
 clear r0 b0 a0 a1 a2 a3 a4 a5 a6 a7 a8 a9 a10 a11 q0 q1 z0 z1 HR g2 hv2
 have HS:=uZ (show _∧_ from⟨(HB.out w2 G2.out).1,HUB.out⟩)
 generalize w1.heap.size=BU at HUB HS ⊢
 clear HUB
 dsimp only [List.length_nil]
 go_wp2_with fail
 go_cut [8] from 28 to 39 (fun s8 wx=>SetCut w2 (T) s8 wx)
 case first =>
  as_aux_lemma =>
  go_region_held3 (fun W=>(W.cell? ⟨w.heap.size,0,none⟩=some (.slice Ar t.roots.length cr)∧W.cell? ⟨w.heap.size,1,none⟩=some (.slice Ab t.brs.length cb)∧W.cell? ⟨w.heap.size+1,0,none⟩=some (.int .i64 i)∧W.cell? ⟨w.heap.size+1,1,none⟩=some (.int .i64 d)∧W.cell? ⟨w.heap.size+1,2,none⟩=some (.int .i64 k)∧W.cell? ⟨w.heap.size+1,3,none⟩=some (.int .i64 u)∧W.cell? ⟨w.heap.size+1,4,none⟩=some (.int .i64 p)∧W.cell? ⟨w.heap.size+1,5,none⟩=some (.int .i64 b)∧W.cell? ⟨w.heap.size+1,6,none⟩=some (.int .i64 l)∧W.cell? ⟨w.heap.size+1,7,none⟩=some (.string tt)∧W.cell? ⟨w.heap.size+1,8,none⟩=some (.string m)∧W.cell? ⟨w.heap.size+1,9,none⟩=some (.int .i64 x9)∧W.cell? ⟨w.heap.size+1,10,none⟩=some (.int .i64 x10)∧W.cell? ⟨w.heap.size+1,11,none⟩=some (.int .i64 x11))∧W.cell? ⟨BU,1,none⟩=some (.int .i64 fp)) (exact s14_grow HS.out b_2) (first|(go_at_call 98;refine(Kcp.out _ (HG2.out.trans b_22)).mono ?_;rintro e wq1 ⟨vq1,rfl,hvq1,gq1,-⟩;have GQ1:=uZ (show Grew w2 wq1 from uY b_22 gq1);(first|have Na1:=uZ (show Grew (w2.alloc (.cells [.slice none 0 0,.slice none 0 0].toArray 35)) wq1 from uY (uX _).drew gq1)|have Na1:=uZ (show Grew (w2.alloc (.cells [.slice none 0 0,.slice none 0 0].toArray 35)) wq1 from uY (uX _) gq1)|skip);have HVq1:=uZ hvq1;clear hvq1;clear gq1)|(go_at_call 104;refine(Kwo.out _ _ (SlI.mono HVq1.out b_22)).mono ?_;rintro e wq2 ⟨vq2,rfl,hoq2,gq2⟩;have GQ2:=uZ (show Grew w2 wq2 from uY b_13 gq2);have GL2:=uZ (show Grew wq1 wq2 from uY b_22 gq2);(first|have Na2:=uZ (show Grew (wq1.alloc (.cells [.slice none 0 0,.slice none 0 0].toArray 35)) wq2 from uY (uX _).drew gq2)|have Na2:=uZ (show Grew (wq1.alloc (.cells [.slice none 0 0,.slice none 0 0].toArray 35)) wq2 from uY (uX _) gq2)|skip);have HVq2:=uZ (show SlI wq2 vq2 KW from Rd.of_own hoq2);clear hoq2;clear gq2)|(go_at_call 101;refine(Kst.out _ _ (HG2.out.trans b_14) (SlI.mono HVq2.out b_22)).mono ?_;rintro e wq3 ⟨rq3,bq3,rfl,htq3,gq3⟩;have GQ3:=uZ (show Grew w2 wq3 from uY b_10 gq3);have GL3:=uZ (show Grew wq2 wq3 from uY b_22 gq3);(first|have Na3:=uZ (show Grew (wq2.alloc (.cells [.slice none 0 0,.slice none 0 0].toArray 35)) wq3 from uY (uX _).drew gq3)|have Na3:=uZ (show Grew (wq2.alloc (.cells [.slice none 0 0,.slice none 0 0].toArray 35)) wq3 from uY (uX _) gq3)|skip);(try have Pq1:=uK (((Na1.out).trans GL2.out).trans GL3.out) (heap_allocE (a:=w2) (p:=(.cells [.slice none 0 0,.slice none 0 0].toArray 35)) rfl));(try have pq10:=(zt_facts Pq1).1);(try have pq11:=(zt_facts Pq1).2.1);(try have pq12:=(zt_facts Pq1).2.2.1);(try have pq13:=(zt_facts Pq1).2.2.2);(try have Pq2:=uK ((Na2.out).trans GL3.out) (heap_allocE (a:=wq1) (p:=(.cells [.slice none 0 0,.slice none 0 0].toArray 35)) rfl));(try have pq20:=(zt_facts Pq2).1);(try have pq21:=(zt_facts Pq2).2.1);(try have pq22:=(zt_facts Pq2).2.2.1);(try have pq23:=(zt_facts Pq2).2.2.2);(try have Pq3:=uK (Na3.out) (heap_allocE (a:=wq2) (p:=(.cells [.slice none 0 0,.slice none 0 0].toArray 35)) rfl));(try have pq30:=(zt_facts Pq3).1);(try have pq31:=(zt_facts Pq3).2.1);(try have pq32:=(zt_facts Pq3).2.2.1);(try have pq33:=(zt_facts Pq3).2.2.2);obtain⟨⟨Aq3,nq3,kq3,rfl⟩,Bq3,mq3,lq3,rfl⟩:=slices2 htq3;have HTq3:=uZ htq3;clear htq3;clear gq3))
  all_goals go_wp2_with fail
  all_goals go_meet
  all_goals first|exact set_meet2 GQ3.out HTq3.out|exact set_meet Pq1 (Nat.le_refl _) GQ3.out HTq3.out|exact set_meet Pq2 GQ1.out.size GQ3.out HTq3.out|exact set_meet Pq3 GQ2.out.size GQ3.out HTq3.out
 case rest =>
  skip
  obtain⟨X,rvS,bvS,rfl,hX,hlo,hT,hgC⟩:=hcut
  have HT:=uZ hT
  have GC:=uZ (G2.out.trans hgC)
  have HGC:=uZ (HG2.out.trans hgC)
  obtain⟨A4,k4,rfl,-⟩:=SlI.open_ hT.1
  obtain⟨B4,l4,rfl,-,-,hbr⟩:=SlBr.open_ hT.2
  have HBR:=uZ hbr
  have HX:=uZ hX
  have hRl:=(Array.getElem?_eq_some_iff.1 (HB.out w2 G2.out).2).1
  have hRX:¬ w.heap.size+1+1=X:=by omega
  have hRC:=(Array.getElem?_eq_some_iff.1 (HB.out wc GC.out).2).1
  have hwX:w.heap.size≤X:=by omega
  have HWX:=uZ hwX
  have hwc:w.heap.size≤wc.heap.size:=HGC.out.size
  clear hT hgC hbr hX hlo hRl hRC HS KF Kch Kcp Kwo Kst G2 HG2
  go_wp2_with fail
  go_loopg [9,10] T.brs.length (fun gg s9 s10 wr=>∃(kk:Nat) (cs:List BrC),kk≤T.brs.length∧T.brs.length-kk≤gg∧s10=.int .i64 kk∧Aside (wr.ownsRow wc.heap.size 53 6 s9 (notB u (T.brs.take kk)).length (cs.flatMap BrC.cells))∧Aside (KeptB wc cs (notB u (T.brs.take kk)))∧Aside (Grew wc wr))
  case atStart=>exact⟨0,[],by omega,by omega,rfl,(show Aside _ from World.ownsRow_nil _ _ _ _),(show Aside _ from⟨rfl,fun _ h=>absurd h (Nat.not_lt_zero _)⟩),(show Aside _ from uX _)⟩
  case round =>
   obtain⟨kk,cs,hkl,hgk,rfl,OW,HK,GW⟩:=hrel
   obtain⟨x0,x1,fz0,fz1⟩:=zt_facts4 (uK GW.out HX.out)
   obtain⟨⟨r0,b0,a0,a1,a2,a3,a4,a5,a6,a7,a8,a9,a10,a11⟩,hR⟩:=HB.out wr (GC.out.trans GW.out)
   clear r0 b0 a0 a1 a2 a4 a5 a6 a7 a8 a9 a10 a11
   by_cases hlt:kk<T.brs.length
   rotate_left
   ·have hltz:¬ (kk:Int)<(T.brs.length:Int):=by omega
    obtain rfl:kk=T.brs.length:=by omega
    have ho:=OW.out
    have hkp:=HK.out
    rw[List.take_length] at ho hkp
    have ht:TrOk wr (.slice A4 T.roots.length k4) u9 ⟨T.roots,notB u T.brs⟩:=⟨SlI.mono HT.out.1 GW.out,cs,Rd.of_own ho,hkp.1,fun i h h2=>⟨(hkp.2 i h h2).1,(hkp.2 i h h2).2.mono GW.out⟩⟩
    have hX2:=uK GW.out HX.out
    have HT2:=uZ (ht.setS (j:=1) (x:=u9) hX2 ⟨_,_,_,rfl⟩ ⟨_,_,_,rfl⟩)
    have hR2:=heap_set ⟨X,1,none⟩ u9 hR hRX
    have HR:=uZ hR2
    obtain⟨q0,q1,z0,z1⟩:=res4 hR2
    have HGF:=uZ ((HGC.out.trans GW.out).setCell (p:=⟨X,1,none⟩) HWX.out u9)
    obtain⟨A9,n9,c9,rfl⟩:=(show ∃ A n c,u9=.slice A n c from(slices2 ht).2)
    clear ho hkp ht hX2 hR hR2 OW HK HBR HT a3
    go_wp2_with fail
    obtain⟨p0,p1⟩:=res_cells (v0:=(.slice A4 T.roots.length k4)) (v1:=(.slice A9 n9 c9)) q0 q1
    refine bodyPost_ret (v:=.tuple #[.agg #[.slice A4 T.roots.length k4,.slice A9 n9 c9],.int .i64 0]) (by simp[results,Tryz.results58,go_sem,p0,p1]) rfl ?_
    exact laidTr HR.out b_37 HGF.out HT2.out
   have hltz:(kk:Int)<(T.brs.length:Int):=by omega
   have h0z:(0:Int)≤(kk:Int):=by omega
   obtain⟨bb,off,rfl,hb,hcell⟩:=HBR.out b_37
   obtain⟨kv,hkv,hcl⟩:=hcell kk hlt
   obtain⟨c0,c1,c2,c3,c4,c5⟩:=hcl wr GW.out
   have HNX:=uZ (notB_take T.brs u kk hlt)
   have HLE:=uZ (show(notB u (T.brs.take kk)).length≤T.brs.length from Nat.le_trans (List.length_filter_le _ _) b_32)
   have HSN:=uZ (fun(h:BrOk wc (T.brs[kk].c kv) T.brs[kk])=>KeptB.snoc (c:=T.brs[kk].c kv) (b:=T.brs[kk]) HK.out h)
   have HBO:=uZ (show BrOk wc (T.brs[kk].c kv) T.brs[kk] from⟨rfl,hkv⟩)
   obtain⟨Ak,nk,ck,rfl⟩:∃ A n c,kv=.slice A n c:=by obtain⟨A,c,e,-⟩:=SlI.open_ hkv;exact⟨A,_,c,e⟩
   obtain⟨A5,c5x,rfl⟩:=own_slice OW.out
   clear hcell hcl hkv hR x0 fz0 fz1
   generalize T.brs[kk]=y at c0 c1 c2 c3 c4 c5 HNX HSN HBO
   obtain⟨yi,yp,yl,yt,ym,yk⟩:=y
   dsimp only at c0 c1 c2 c3 c4 c5 HNX
   have hflx:T.brs.length≤1000000:=hTl
   by_cases hid:yi=u
   ·have hb1:(yi != u)=false:=by simpa using hid
    have hb2:(yi == u)=true:=by simpa using hid
    rw[hb2] at HNX
    simp only [if_true,List.append_nil] at HNX
    clear hid hb2
    go_wp2_with fail
    go_quiet (fail)
    go_wp2_with fail
    go_roundg (T.brs.length-(kk+1))
    case measure=>omega
    case rel =>
     refine⟨kk+1,cs,by omega,by omega,by go_num,?_,?_,(show Aside _ from GW.out.drewN _)⟩
     ·have h1:=own_later OW.out ((uX wr).drewN nq)
      rw[HNX.out]
      exact h1
     ·rw[HNX.out]
      exact HK
   ·have hb1:(yi != u)=true:=by simpa using hid
    have hb2:(yi == u)=false:=by simpa using hid
    rw[hb2] at HNX
    simp only [Bool.false_eq_true,if_false] at HNX
    clear hid hb2
    go_wp2_with fail
    go_quiet (fail)
    have hle:=HLE.out
    go_wp2_with (at_builtin;refine app1H rfl _ _ 33 rfl wc 53 i0 (.agg #[.int .i64 0,.int .i64 0,.int .i64 0,.string ⟨#[]⟩,.string ⟨#[]⟩,.slice none 0 0]) 6 80 Tryz.underlying33 hi0 hz0 hz1 hz2 rfl b_37 _ _ _ b_39 (wr.drewN nq) (own_later OW.out ((uX _).drewN _)) (GW.out.drewN _) wr.heap.size b_38 [.int .i64 yi,.int .i64 yp,.int .i64 yl,.string yt,.string ym,.slice Ak nk ck] b_39 rfl rfl b_34 b_37 ?_;intro v8 w8 hown8 hg8;have HO8:=uZ hown8;have HG8:=uZ hg8;clear hown8 hg8)
    go_roundg (T.brs.length-(kk+1))
    case measure=>omega
    case rel =>
     refine⟨kk+1,cs++[⟨yi,yp,yl,yt,ym,.slice Ak nk ck⟩],by omega,by omega,by go_num,?_,?_,(show Aside _ from HG8.out)⟩
     ·have h1:=HO8.out
      rw[HNX.out]
      show World.ownsRow _ _ _ _ _ _ _
      rw[List.length_append,List.flatMap_append]
      exact h1
     ·rw[HNX.out]
      exact HSN.out HBO.out
end Go.Proofs.YtafncfomiolmgaaGreatDoor
namespace Go.Proofs.YtafncfomiolmgaaGreatDoor
open Go.RowKit
theorem few_setG {t:Tr} (hf:FewBr t.brs) (hrl:t.roots.length≤1000000) (p:Int) {ks:List Int} (hk:ks.length≤1000000):FewBr (setG t p ks).brs∧(setG t p ks).roots.length≤1000000:=by
 refine⟨⟨?_,fun i hi=>?_⟩,?_⟩
 ·show(t.brs.map (kidG p ks)).length≤1000000
  rw[List.length_map]
  exact hf.1
 ·have h2:i<t.brs.length:=by
   have:i<(t.brs.map (kidG p ks)).length:=hi
   rwa [List.length_map] at this
  have:(setG t p ks).brs[i]=kidG p ks t.brs[i]:=List.getElem_map ..
  rw[this]
  unfold kidG
  split
  ·exact hk
  ·exact hf.2 i h2
 ·show(if p=0 then ks else t.roots).length≤1000000
  split
  ·exact hk
  ·exact hrl
theorem no_zero {t:Tr} (h:SoundM t):∀ b∈t.brs,b.id≠0:=fun b hb=>unit_pos (h.units b hb)
theorem setG_no_zero {t:Tr} (h:∀ b∈t.brs,b.id≠0) (p:Int) (ks:List Int):∀ b∈(setG t p ks).brs,b.id≠0:=fun b hb=>by
 obtain⟨c,hc,rfl⟩:=List.mem_map.1 hb
 have:(kidG p ks c).id=c.id:=by
  unfold kidG
  split<;>rfl
 rw[this]
 exact h c hc
theorem childs_nd {t:Tr} (h:SoundM t) {p:Int} (hp:p=0∨∃ b∈t.brs,b.id=p):(childs t p).Nodup∧(0:Int)∉childs t p:=by
 have hk:KidsAre t.brs (childs t p) p:=((sound_parts t).1 h).2 p hp
 refine⟨hk.1,fun hm=>?_⟩
 obtain⟨b,hb,_,e⟩:=(hk.2 0).1 hm
 exact unit_pos (h.units b hb) e
theorem without_few (n:Int) {l:List Int} (h:l.length≤1000000):(withoutF n l).length≤1000000:=Nat.le_trans (List.length_filter_le _ _) h
theorem putF_few (n b:Int):∀ {l:List Int},l.length<1000000→(putF n b l).length≤1000000
 | [],_=>by
  unfold putF
  split<;>simp
 | x::r,h=>by
  unfold putF
  split
  ·simp at h ⊢
   omega
  ·have:=putF_few n b (l:=r) (by simp at h;omega)
   have h2:(putF n b r).length≤r.length+1:=putF_le n b r
   simp at h ⊢
   omega
 where
 putF_le (n b:Int):∀ l:List Int,(putF n b l).length≤l.length+1
 | []=>by
  unfold putF
  split<;>simp
 | x::r=>by
  unfold putF
  split
  ·simp
  ·have:=putF_le n b r
   simp
   omega
section
variable {t:Tr} {o:Opn} {fb:Br}
def takeR (t:Tr) (o:Opn) (fb:Br):Tr:=setG t fb.parent (withoutF o.unit (childs t fb.parent))
theorem takeR_childs (hs:SoundM t) (hb:brFind t.brs o.unit=some fb) {q:Int} (hq:q=0∨∃ b∈t.brs,b.id=q):childs (takeR t o fb) q=withoutF o.unit (childs t q):=by
 have hin:=find_in hb
 unfold takeR
 rw[setG_eq (no_zero hs),← hin.2]
 exact childs_taken hs hin.1 q hq
theorem takeR_few (hf:FewBr t.brs) (hrl:t.roots.length≤1000000):FewBr (takeR t o fb).brs∧(takeR t o fb).roots.length≤1000000:=few_setG hf hrl _ (without_few _ (childs_few hf hrl _))
theorem move_ref (hs:SoundM t) (hb:brFind t.brs o.unit=some fb) (hp:o.parent=0∨∃ b∈t.brs,b.id=o.parent) :
  chG (setG (takeR t o fb) o.parent (putF o.unit o.before (withoutF o.unit (childs t o.parent)))) { fb with parent:=o.parent }=moveT t o fb:=by
 have hin:=find_in hb
 have h0:=no_zero hs
 have hz:∀ b∈(takeR t o fb).brs,b.id≠0:=setG_no_zero h0 _ _
 rw[setG_eq hz]
 unfold moveT
 have ht:takeR t o fb=setK t fb.parent (withoutF o.unit (childs t fb.parent)):=setG_eq h0 _ _
 have hc:=takeR_childs hs hb hp
 rw[ht] at hc ⊢
 dsimp only
 rw[hc]
 generalize hT:setK (setK t fb.parent (withoutF o.unit (childs t fb.parent))) o.parent (putF o.unit o.before (withoutF o.unit (childs t o.parent)))=T
 have hm:∀ b∈T.brs,b.id=o.unit→core b=core fb:=by
  intro b hbm he
  rw[← hT] at hbm
  have key:∀(x:Tr) (p:Int) (ks:List Int) (b:Br),b∈(setK x p ks).brs→∃ c∈x.brs,core b=core c:=by
   intro x p ks b hb
   rw[setK_brs] at hb
   split at hb
   ·exact⟨b,hb,rfl⟩
   ·obtain⟨c,hc,rfl⟩:=List.mem_map.1 hb
    exact⟨c,hc,kidG_core p ks c⟩
  obtain⟨c,hc,e1⟩:=key _ _ _ b hbm
  obtain⟨d,hd,e2⟩:=key _ _ _ c hc
  have e3:=(core_all (e1.trans e2)).1
  have:d=fb:=asc_same hs.asc hd hin.1 (by rw[← e3,he,hin.2])
  rw[e1,e2,this]
 unfold chG setU
 congr 1
 refine List.map_congr_left fun b hbm=>?_
 unfold putU
 dsimp only
 by_cases e:b.id=o.unit
 ·have h1:=core_all (hm b hbm e)
  rw[if_pos (by rw[e,hin.2]),if_pos e,← h1.1,← h1.2.2.1,← h1.2.2.2.1,← h1.2.2.2.2]
 ·rw[if_neg (by rw[hin.2];exact e),if_neg e]
end
end Go.Proofs.YtafncfomiolmgaaGreatDoor
namespace Go.Proofs.YtafncfomiolmgaaGreatDoor
open Go.RowKit
set_option maxRecDepth 100000 in
theorem c_31 {p:Prop} (h:p:=by
 refine(KB.out _ HG2.out).mono ?_
 rintro e w3 ⟨v3,rfl,hv3,g3⟩
 have G3:=uZ (G2.out.trans g3)
 have HG3:=uZ (GA.out.trans G3.out)
 have HU3:=uZ (uK g3 HU2.out)
 have HV3:=uZ hv3
 clear r0 b0 a0 a1 a2 a3 a4 a5 a6 a7 a8 a9 a10 a11 q0 q1 z0 z1 HR g3 hv3 KB KF KG
 obtain⟨⟨r0,b0,a0,a1,a2,a3,a4,a5,a6,a7,a8,a9,a10,a11⟩,hR⟩:=HB.out _ G3.out
 obtain⟨q0,q1,z0,z1⟩:=res4 hR
 have HR:=uZ hR
 clear hR
 dsimp only
 go_wp2_with fail
 refine(KH.out _ _ HV3.out).mono ?_
 rintro e w4 ⟨rfl,rfl⟩
 dsimp only
 have hnb:(n != 0)=true:=by simpa using hn0
 obtain⟨u0,u1,u2,-⟩:=unit_cells HU3.out
 go_wp2_with fail
 refine(KL.out _ HG3.out).mono ?_
 rintro e w5 ⟨rfl,g5⟩
 have G5:=uZ (G3.out.trans g5)
 have HG5:=uZ (GA.out.trans G5.out)
 clear r0 b0 a0 a1 a2 a3 a4 a5 a6 a7 a8 a9 a10 a11 q0 q1 z0 z1 HR g5 u0 u1 u2
 obtain⟨⟨r0,b0,a0,a1,a2,a3,a4,a5,a6,a7,a8,a9,a10,a11⟩,hR⟩:=HB.out _ G5.out
 obtain⟨q0,q1,z0,z1⟩:=res4 hR
 have HR:=uZ hR
 clear hR
 dsimp only
 go_wp2_with fail
 obtain⟨p0,p1⟩:=res_cells (v0:=(.slice Ar t.roots.length cr)) (v1:=(.slice Ab t.brs.length cb)) q0 q1
 refine bodyPost_ret (v:=.tuple #[.agg #[.slice Ar t.roots.length cr,.slice Ab t.brs.length cb],.int .i64 n]) b_26 rfl ?_
 exact laidTr HR.out b_37 HG5.out (HTT.out _ HG5.out)):p:=h
set_option maxRecDepth 100000 in
theorem c_34 {p:Prop} (h:p:=by
 refine(KB.out _ HG2.out).mono ?_
 rintro e w3 ⟨v3,rfl,hv3,g3⟩
 have G3:=uZ (G2.out.trans g3)
 have HG3:=uZ (GA.out.trans G3.out)
 have HU3:=uZ (uK g3 HU2.out)
 have HV3:=uZ hv3
 clear r0 b0 a0 a1 a2 a3 a4 a5 a6 a7 a8 a9 a10 a11 q0 q1 z0 z1 HR g3 hv3 KB KF KG
 obtain⟨⟨r0,b0,a0,a1,a2,a3,a4,a5,a6,a7,a8,a9,a10,a11⟩,hR⟩:=HB.out _ G3.out
 obtain⟨q0,q1,z0,z1⟩:=res4 hR
 have HR:=uZ hR
 clear hR
 dsimp only
 go_wp2_with fail
 refine(KH.out _ _ HV3.out).mono ?_
 rintro e w4 ⟨rfl,rfl⟩
 dsimp only
 go_wp2_with fail
 obtain⟨p0,p1⟩:=res_cells (v0:=(.slice Ar t.roots.length cr)) (v1:=(.slice Ab t.brs.length cb)) q0 q1
 refine bodyPost_ret (v:=.tuple #[.agg #[.slice Ar t.roots.length cr,.slice Ab t.brs.length cb],.int .i64 17]) b_26 rfl ?_
 exact laidTr HR.out b_37 HG3.out (HTT.out _ HG3.out)):p:=h
def PutCut (W0:World) (X:Nat) (T:Tr) (wx:World):Prop:=∃ rv bv,wx.heap[X]? = some (.cells #[rv,bv] 35 (0,0))∧TrOk wx rv bv T∧Grew W0 wx
theorem put_meet {W0 W:World} {X:Nat} {T:Tr} {rv bv r0 b0:Value} (hX:W.heap[X]? = some (.cells #[r0,b0] 35 (0,0))) (h0:∃ A n c,r0=.slice A n c) (h1:∃ A n c,b0=.slice A n c) (hlo:W0.heap.size≤X) (hG:Grew W0 W) (h:TrOk W rv bv T):PutCut W0 X T ((W.setCell ⟨X,0,none⟩ rv).setCell ⟨X,1,none⟩ bv):=by
 have k1:=heap_setCell_same W X 0 #[r0,b0] 35 rv hX
 have k2:(W.setCell ⟨X,0,none⟩ rv).heap[X]? = some (.cells #[rv,b0] 35 (0,0)):=by simpa using k1
 have k3:=heap_setCell_same (W.setCell ⟨X,0,none⟩ rv) X 1 #[rv,b0] 35 bv k2
 exact⟨rv,bv,by simpa using k3,(h.setS hX h0 h1).setS k2 (slices2 h).1 h1,(hG.setCell hlo _).setCell hlo _⟩
set_option maxHeartbeats 16000000 in
set_option maxRecDepth 100000 in
theorem refMoveNo (t:Tr) (o:Opn) (rv bv:Value) (w:World) (hr:SlI w rv t.roots) (hv:SlBr w bv t.brs) (ho:brFind t.brs o.unit=none):Calls Tryz.prog 57 #[.agg #[rv,bv],o.agg] w (RetTr (t,7) w):=by
 have HTT:=uZ (fun W (hW:Grew w W)=>(⟨hr.mono hW,hv.mono hW⟩:TrOk W rv bv t))
 have kF:=fun W (hW:Grew w W)=>refFind19 t.brs o.unit rv bv W (hv.mono hW)
 rw[ho] at kF
 unfold TFindEnd at kF
 dsimp only [Option.getD_none,Option.isSome_none,br0] at kF
 have HBX:=uZ (ref_box w o)
 obtain⟨Ar,cr,rfl,-⟩:=SlI.open_ hr
 obtain⟨Ab,cb,rfl,-⟩:=SlBr.open_ hv
 clear hr hv
 obtain⟨i,d,k,u,p,b,l,tt,m,x9,x10,x11⟩:=o
 unfold Opn.agg
 unfold Opn.cells at HBX
 dsimp only at HBX kF ho ⊢
 have KF:=uZ kF
 have Ho:=uZ ho
 clear kF ho
 have GA:=uZ ((((uX w).alloc (.cells [.slice Ar t.roots.length cr,.slice Ab t.brs.length cb].toArray 35)).alloc (.cells [.int .i64 i,.int .i64 d,.int .i64 k,.int .i64 u,.int .i64 p,.int .i64 b,.int .i64 l,.string tt,.string m,.int .i64 x9,.int .i64 x10,.int .i64 x11].toArray 25)).alloc (.cells [.slice none 0 0,.slice none 0 0].toArray 35))
 have HB:=uZ (fun W g=>HBX.out (.slice Ar t.roots.length cr) (.slice Ab t.brs.length cb) W g)
 clear HBX
 go_enter Tryz.func57,Tryz.ntmps57
 go_wp2_with fail
 generalize ((w.alloc (.cells [.slice Ar t.roots.length cr,.slice Ab t.brs.length cb].toArray 35)).alloc (.cells [.int .i64 i,.int .i64 d,.int .i64 k,.int .i64 u,.int .i64 p,.int .i64 b,.int .i64 l,.string tt,.string m,.int .i64 x9,.int .i64 x10,.int .i64 x11].toArray 25)).alloc (.cells [.slice none 0 0,.slice none 0 0].toArray 35)=WA at GA HB ⊢
 refine(KF.out _ GA.out).mono ?_
 rintro e w1 ⟨rfl,g1⟩
 have HG1:=uZ (GA.out.trans (g1.alloc (.cells #[.int .i64 0,.int .i64 0,.int .i64 0,.string ⟨#[]⟩,.string ⟨#[]⟩] 51)))
 obtain⟨⟨r0,b0,a0,a1,a2,a3,a4,a5,a6,a7,a8,a9,a10,a11⟩,hR⟩:=HB.out _ (g1.alloc (.cells #[.int .i64 0,.int .i64 0,.int .i64 0,.string ⟨#[]⟩,.string ⟨#[]⟩] 51))
 obtain⟨q0,q1,z0,z1⟩:=res4 hR
 have HR:=uZ hR
 clear hR
 clear g1
 dsimp only
 go_wp2_with fail
 obtain⟨p0,p1⟩:=res_cells (v0:=(.slice Ar t.roots.length cr)) (v1:=(.slice Ab t.brs.length cb)) q0 q1
 refine bodyPost_ret (v:=.tuple #[.agg #[.slice Ar t.roots.length cr,.slice Ab t.brs.length cb],.int .i64 7]) b_26 rfl ?_
 exact laidTr HR.out b_37 HG1.out (HTT.out _ HG1.out)
set_option maxHeartbeats 16000000 in
set_option maxRecDepth 100000 in
theorem refMovePar (t:Tr) (o:Opn) (rv bv:Value) (w:World) (hr:SlI w rv t.roots) (hv:SlBr w bv t.brs) {fb:Br} (ho:brFind t.brs o.unit=some fb) (hp:o.parent≠0) (hn:brFind t.brs o.parent=none):Calls Tryz.prog 57 #[.agg #[rv,bv],o.agg] w (RetTr (t,7) w):=by
 have HTT:=uZ (fun W (hW:Grew w W)=>(⟨hr.mono hW,hv.mono hW⟩:TrOk W rv bv t))
 have kF:=fun W (hW:Grew w W)=>refFind19 t.brs o.unit rv bv W (hv.mono hW)
 rw[ho] at kF
 unfold TFindEnd at kF
 dsimp only [Option.getD_some,Option.isSome_some] at kF
 have kG:=fun W (hW:Grew w W)=>refFind19 t.brs o.parent rv bv W (hv.mono hW)
 rw[hn] at kG
 unfold TFindEnd at kG
 dsimp only [Option.getD_none,Option.isSome_none,br0] at kG
 have HBX:=uZ (ref_box w o)
 obtain⟨Ar,cr,rfl,-⟩:=SlI.open_ hr
 obtain⟨Ab,cb,rfl,-⟩:=SlBr.open_ hv
 clear hr hv
 obtain⟨i,d,k,u,p,b,l,tt,m,x9,x10,x11⟩:=o
 obtain⟨fi,fp,fl,ft,fm,fk⟩:=fb
 unfold Opn.agg
 unfold Opn.cells at HBX
 dsimp only at HBX kF kG hp ⊢
 have KF:=uZ kF
 have KG:=uZ kG
 have Hp:=uZ hp
 clear kF kG hp
 have GA:=uZ ((((uX w).alloc (.cells [.slice Ar t.roots.length cr,.slice Ab t.brs.length cb].toArray 35)).alloc (.cells [.int .i64 i,.int .i64 d,.int .i64 k,.int .i64 u,.int .i64 p,.int .i64 b,.int .i64 l,.string tt,.string m,.int .i64 x9,.int .i64 x10,.int .i64 x11].toArray 25)).alloc (.cells [.slice none 0 0,.slice none 0 0].toArray 35))
 have HB:=uZ (fun W g=>HBX.out (.slice Ar t.roots.length cr) (.slice Ab t.brs.length cb) W g)
 clear HBX
 go_enter Tryz.func57,Tryz.ntmps57
 go_wp2_with fail
 generalize ((w.alloc (.cells [.slice Ar t.roots.length cr,.slice Ab t.brs.length cb].toArray 35)).alloc (.cells [.int .i64 i,.int .i64 d,.int .i64 k,.int .i64 u,.int .i64 p,.int .i64 b,.int .i64 l,.string tt,.string m,.int .i64 x9,.int .i64 x10,.int .i64 x11].toArray 25)).alloc (.cells [.slice none 0 0,.slice none 0 0].toArray 35)=WA at GA HB ⊢
 refine(KF.out _ GA.out).mono ?_
 rintro e w1 ⟨rfl,g1⟩
 have G1:=uZ (g1.alloc (.cells #[.int .i64 fi,.int .i64 fp,.int .i64 fl,.string ft,.string fm] 51))
 have HG1:=uZ (GA.out.trans G1.out)
 obtain⟨⟨r0,b0,a0,a1,a2,a3,a4,a5,a6,a7,a8,a9,a10,a11⟩,hR⟩:=HB.out _ G1.out
 obtain⟨q0,q1,z0,z1⟩:=res4 hR
 have HR:=uZ hR
 clear hR
 clear g1
 have hpb:(p != 0)=true:=by simpa using Hp.out
 dsimp only
 go_wp2_with fail
 refine(KG.out _ HG1.out).mono ?_
 rintro e w2 ⟨rfl,g2⟩
 have G2:=uZ ((G1.out.trans g2).alloc (.cells #[.int .i64 0,.int .i64 0,.int .i64 0,.string ⟨#[]⟩,.string ⟨#[]⟩] 51))
 have HG2:=uZ (GA.out.trans G2.out)
 clear r0 b0 a0 a1 a2 a3 a4 a5 a6 a7 a8 a9 a10 a11 q0 q1 z0 z1 HR g2
 obtain⟨⟨r0,b0,a0,a1,a2,a3,a4,a5,a6,a7,a8,a9,a10,a11⟩,hR⟩:=HB.out _ G2.out
 obtain⟨q0,q1,z0,z1⟩:=res4 hR
 have HR:=uZ hR
 clear hR
 dsimp only
 go_wp2_with fail
 obtain⟨p0,p1⟩:=res_cells (v0:=(.slice Ar t.roots.length cr)) (v1:=(.slice Ab t.brs.length cb)) q0 q1
 refine bodyPost_ret (v:=.tuple #[.agg #[.slice Ar t.roots.length cr,.slice Ab t.brs.length cb],.int .i64 7]) b_26 rfl ?_
 exact laidTr HR.out b_37 HG2.out (HTT.out _ HG2.out)
set_option maxHeartbeats 16000000 in
set_option maxRecDepth 100000 in
theorem refMoveCycS (t:Tr) (o:Opn) (rv bv:Value) (w:World) (hr:SlI w rv t.roots) (hv:SlBr w bv t.brs) (hf:FewBr t.brs) (hrl:t.roots.length≤1000000) (hT:RightT t) (hm:∀ i (h:i<t.brs.length),t.brs[i].mark.size≤9223372036854775807) {fb:Br} (ho:brFind t.brs o.unit=some fb) {pq:Br} (hp:brFind t.brs o.parent=some pq) (hc:o.parent∈belowT t o.unit):Calls Tryz.prog 57 #[.agg #[rv,bv],o.agg] w (RetTr (t,17) w):=by
 have HTT:=uZ (fun W (hW:Grew w W)=>(⟨hr.mono hW,hv.mono hW⟩:TrOk W rv bv t))
 have kF:=fun W (hW:Grew w W)=>refFind19 t.brs o.unit rv bv W (hv.mono hW)
 rw[ho] at kF
 unfold TFindEnd at kF
 dsimp only [Option.getD_some,Option.isSome_some] at kF
 have hin:=find_in ho
 have kG:=fun W (hW:Grew w W)=>refFind19 t.brs o.parent rv bv W (hv.mono hW)
 rw[hp] at kG
 unfold TFindEnd at kG
 dsimp only [Option.getD_some,Option.isSome_some] at kG
 have kB:=fun W (hW:Grew w W)=>refBelow t.roots t.brs o.unit rv bv W (hr.mono hW) (hv.mono hW) hf hrl hm
 rw[show belowR ⟨t.roots,t.brs⟩ o.unit=_ from belowR_there hT (.inr ⟨fb,hin.1,hin.2⟩)] at kB
 clear hin
 have kH:=fun v W h=>ref21Has (belowT t o.unit) o.parent v W h
 rw[decide_eq_true hc] at kH
 have HBX:=uZ (ref_box w o)
 obtain⟨Ar,cr,rfl,-⟩:=SlI.open_ hr
 obtain⟨Ab,cb,rfl,-⟩:=SlBr.open_ hv
 clear hr hv hf hrl
 obtain⟨i,d,k,u,p,b,l,tt,m,x9,x10,x11⟩:=o
 obtain⟨fi,fp,fl,ft,fm,fk⟩:=fb
 unfold Opn.agg
 unfold Opn.cells at HBX
 dsimp only at HBX kF kG kB kH ⊢
 have KF:=uZ kF
 have KG:=uZ kG
 have KB:=uZ kB
 have KH:=uZ kH
 clear kF kG kB kH
 have GA:=uZ ((((uX w).alloc (.cells [.slice Ar t.roots.length cr,.slice Ab t.brs.length cb].toArray 35)).alloc (.cells [.int .i64 i,.int .i64 d,.int .i64 k,.int .i64 u,.int .i64 p,.int .i64 b,.int .i64 l,.string tt,.string m,.int .i64 x9,.int .i64 x10,.int .i64 x11].toArray 25)).alloc (.cells [.slice none 0 0,.slice none 0 0].toArray 35))
 have HB:=uZ (fun W g=>HBX.out (.slice Ar t.roots.length cr) (.slice Ab t.brs.length cb) W g)
 clear HBX
 go_enter Tryz.func57,Tryz.ntmps57
 go_wp2_with fail
 generalize ((w.alloc (.cells [.slice Ar t.roots.length cr,.slice Ab t.brs.length cb].toArray 35)).alloc (.cells [.int .i64 i,.int .i64 d,.int .i64 k,.int .i64 u,.int .i64 p,.int .i64 b,.int .i64 l,.string tt,.string m,.int .i64 x9,.int .i64 x10,.int .i64 x11].toArray 25)).alloc (.cells [.slice none 0 0,.slice none 0 0].toArray 35)=WA at GA HB ⊢
 obtain⟨pi,pp,pl,pt,pm,pk⟩:=pq
 refine(KF.out _ GA.out).mono ?_
 rintro e w1 ⟨rfl,g1⟩
 have G1:=uZ (g1.alloc (.cells #[.int .i64 fi,.int .i64 fp,.int .i64 fl,.string ft,.string fm] 51))
 have HG1:=uZ (GA.out.trans G1.out)
 have HBU:=uZ (heap_allocE (a:=w1) (p:=(.cells #[.int .i64 fi,.int .i64 fp,.int .i64 fl,.string ft,.string fm] 51)) rfl)
 obtain⟨⟨r0,b0,a0,a1,a2,a3,a4,a5,a6,a7,a8,a9,a10,a11⟩,hR⟩:=HB.out _ G1.out
 obtain⟨q0,q1,z0,z1⟩:=res4 hR
 have HR:=uZ hR
 clear hR
 clear g1
 dsimp only
 go_wp2_with fail
 refine(KG.out _ HG1.out).mono ?_
 rintro e w2 ⟨rfl,g2⟩
 have G2:=uZ ((G1.out.trans g2).alloc (.cells #[.int .i64 pi,.int .i64 pp,.int .i64 pl,.string pt,.string pm] 51))
 have HG2:=uZ (GA.out.trans G2.out)
 have HU2:=uZ (uK (g2.alloc (.cells #[.int .i64 pi,.int .i64 pp,.int .i64 pl,.string pt,.string pm] 51)) HBU.out)
 clear r0 b0 a0 a1 a2 a3 a4 a5 a6 a7 a8 a9 a10 a11 q0 q1 z0 z1 HR g2 HBU
 obtain⟨⟨r0,b0,a0,a1,a2,a3,a4,a5,a6,a7,a8,a9,a10,a11⟩,hR⟩:=HB.out _ G2.out
 obtain⟨q0,q1,z0,z1⟩:=res4 hR
 have HR:=uZ hR
 clear hR
 generalize w1.heap.size=BU at HU2 ⊢
 dsimp only
 go_wp2_with fail
 generalize w2.alloc (.cells #[.int .i64 pi,.int .i64 pp,.int .i64 pl,.string pt,.string pm] 51)=wY at G2 HG2 HU2 r0 b0 a0 a1 a2 a3 a4 a5 a6 a7 a8 a9 a10 a11 q0 q1 z0 z1 HR ⊢
 exact c_34
set_option maxHeartbeats 16000000 in
set_option maxRecDepth 100000 in
theorem refMoveLevS (t:Tr) (o:Opn) (rv bv:Value) (w:World) (hr:SlI w rv t.roots) (hv:SlBr w bv t.brs) (hf:FewBr t.brs) (hrl:t.roots.length≤1000000) (hT:RightT t) (hm:∀ i (h:i<t.brs.length),t.brs[i].mark.size≤9223372036854775807) {fb:Br} (ho:brFind t.brs o.unit=some fb) {pq:Br} (hp:brFind t.brs o.parent=some pq) (hc:o.parent∉belowT t o.unit) {n:Int} (hl:levR t o.parent fb.level=n) (hn0:n≠0):Calls Tryz.prog 57 #[.agg #[rv,bv],o.agg] w (RetTr (t,n) w):=by
 have HTT:=uZ (fun W (hW:Grew w W)=>(⟨hr.mono hW,hv.mono hW⟩:TrOk W rv bv t))
 have kF:=fun W (hW:Grew w W)=>refFind19 t.brs o.unit rv bv W (hv.mono hW)
 rw[ho] at kF
 unfold TFindEnd at kF
 dsimp only [Option.getD_some,Option.isSome_some] at kF
 have hin:=find_in ho
 have kG:=fun W (hW:Grew w W)=>refFind19 t.brs o.parent rv bv W (hv.mono hW)
 rw[hp] at kG
 unfold TFindEnd at kG
 dsimp only [Option.getD_some,Option.isSome_some] at kG
 have kB:=fun W (hW:Grew w W)=>refBelow t.roots t.brs o.unit rv bv W (hr.mono hW) (hv.mono hW) hf hrl hm
 rw[show belowR ⟨t.roots,t.brs⟩ o.unit=_ from belowR_there hT (.inr ⟨fb,hin.1,hin.2⟩)] at kB
 clear hin
 have kH:=fun v W h=>ref21Has (belowT t o.unit) o.parent v W h
 rw[decide_eq_false hc] at kH
 have kL:=fun W (hW:Grew w W)=>lev21 t o.parent fb.level rv bv W (hr.mono hW) (hv.mono hW)
 rw[hl] at kL
 have HBX:=uZ (ref_box w o)
 obtain⟨Ar,cr,rfl,-⟩:=SlI.open_ hr
 obtain⟨Ab,cb,rfl,-⟩:=SlBr.open_ hv
 clear hr hv hf hrl
 obtain⟨i,d,k,u,p,b,l,tt,m,x9,x10,x11⟩:=o
 obtain⟨fi,fp,fl,ft,fm,fk⟩:=fb
 unfold Opn.agg
 unfold Opn.cells at HBX
 dsimp only at HBX kF kG kB kH kL ⊢
 have KF:=uZ kF
 have KG:=uZ kG
 have KB:=uZ kB
 have KH:=uZ kH
 have KL:=uZ kL
 clear kF kG kB kH kL
 have GA:=uZ ((((uX w).alloc (.cells [.slice Ar t.roots.length cr,.slice Ab t.brs.length cb].toArray 35)).alloc (.cells [.int .i64 i,.int .i64 d,.int .i64 k,.int .i64 u,.int .i64 p,.int .i64 b,.int .i64 l,.string tt,.string m,.int .i64 x9,.int .i64 x10,.int .i64 x11].toArray 25)).alloc (.cells [.slice none 0 0,.slice none 0 0].toArray 35))
 have HB:=uZ (fun W g=>HBX.out (.slice Ar t.roots.length cr) (.slice Ab t.brs.length cb) W g)
 clear HBX
 go_enter Tryz.func57,Tryz.ntmps57
 go_wp2_with fail
 generalize ((w.alloc (.cells [.slice Ar t.roots.length cr,.slice Ab t.brs.length cb].toArray 35)).alloc (.cells [.int .i64 i,.int .i64 d,.int .i64 k,.int .i64 u,.int .i64 p,.int .i64 b,.int .i64 l,.string tt,.string m,.int .i64 x9,.int .i64 x10,.int .i64 x11].toArray 25)).alloc (.cells [.slice none 0 0,.slice none 0 0].toArray 35)=WA at GA HB ⊢
 obtain⟨pi,pp,pl,pt,pm,pk⟩:=pq
 refine(KF.out _ GA.out).mono ?_
 rintro e w1 ⟨rfl,g1⟩
 have G1:=uZ (g1.alloc (.cells #[.int .i64 fi,.int .i64 fp,.int .i64 fl,.string ft,.string fm] 51))
 have HG1:=uZ (GA.out.trans G1.out)
 have HBU:=uZ (heap_allocE (a:=w1) (p:=(.cells #[.int .i64 fi,.int .i64 fp,.int .i64 fl,.string ft,.string fm] 51)) rfl)
 obtain⟨⟨r0,b0,a0,a1,a2,a3,a4,a5,a6,a7,a8,a9,a10,a11⟩,hR⟩:=HB.out _ G1.out
 obtain⟨q0,q1,z0,z1⟩:=res4 hR
 have HR:=uZ hR
 clear hR
 clear g1
 dsimp only
 go_wp2_with fail
 refine(KG.out _ HG1.out).mono ?_
 rintro e w2 ⟨rfl,g2⟩
 have G2:=uZ ((G1.out.trans g2).alloc (.cells #[.int .i64 pi,.int .i64 pp,.int .i64 pl,.string pt,.string pm] 51))
 have HG2:=uZ (GA.out.trans G2.out)
 have HU2:=uZ (uK (g2.alloc (.cells #[.int .i64 pi,.int .i64 pp,.int .i64 pl,.string pt,.string pm] 51)) HBU.out)
 clear r0 b0 a0 a1 a2 a3 a4 a5 a6 a7 a8 a9 a10 a11 q0 q1 z0 z1 HR g2 HBU
 obtain⟨⟨r0,b0,a0,a1,a2,a3,a4,a5,a6,a7,a8,a9,a10,a11⟩,hR⟩:=HB.out _ G2.out
 obtain⟨q0,q1,z0,z1⟩:=res4 hR
 have HR:=uZ hR
 clear hR
 generalize w1.heap.size=BU at HU2 ⊢
 dsimp only
 go_wp2_with fail
 generalize w2.alloc (.cells #[.int .i64 pi,.int .i64 pp,.int .i64 pl,.string pt,.string pm] 51)=wY at G2 HG2 HU2 r0 b0 a0 a1 a2 a3 a4 a5 a6 a7 a8 a9 a10 a11 q0 q1 z0 z1 HR ⊢
 exact c_31
set_option maxHeartbeats 16000000 in
set_option maxRecDepth 100000 in
theorem refMoveCycZ (t:Tr) (o:Opn) (rv bv:Value) (w:World) (hr:SlI w rv t.roots) (hv:SlBr w bv t.brs) (hf:FewBr t.brs) (hrl:t.roots.length≤1000000) (hT:RightT t) (hm:∀ i (h:i<t.brs.length),t.brs[i].mark.size≤9223372036854775807) {fb:Br} (ho:brFind t.brs o.unit=some fb) (hp:o.parent=0) (hn:brFind t.brs o.parent=none) (hc:o.parent∈belowT t o.unit):Calls Tryz.prog 57 #[.agg #[rv,bv],o.agg] w (RetTr (t,17) w):=by
 have HTT:=uZ (fun W (hW:Grew w W)=>(⟨hr.mono hW,hv.mono hW⟩:TrOk W rv bv t))
 have kF:=fun W (hW:Grew w W)=>refFind19 t.brs o.unit rv bv W (hv.mono hW)
 rw[ho] at kF
 unfold TFindEnd at kF
 dsimp only [Option.getD_some,Option.isSome_some] at kF
 have hin:=find_in ho
 have kG:=fun W (hW:Grew w W)=>refFind19 t.brs o.parent rv bv W (hv.mono hW)
 rw[hn] at kG
 unfold TFindEnd at kG
 dsimp only [Option.getD_none,Option.isSome_none,br0] at kG
 have kB:=fun W (hW:Grew w W)=>refBelow t.roots t.brs o.unit rv bv W (hr.mono hW) (hv.mono hW) hf hrl hm
 rw[show belowR ⟨t.roots,t.brs⟩ o.unit=_ from belowR_there hT (.inr ⟨fb,hin.1,hin.2⟩)] at kB
 clear hin
 have kH:=fun v W h=>ref21Has (belowT t o.unit) o.parent v W h
 rw[decide_eq_true hc] at kH
 have HBX:=uZ (ref_box w o)
 obtain⟨Ar,cr,rfl,-⟩:=SlI.open_ hr
 obtain⟨Ab,cb,rfl,-⟩:=SlBr.open_ hv
 clear hr hv hf hrl
 obtain⟨i,d,k,u,p,b,l,tt,m,x9,x10,x11⟩:=o
 obtain⟨fi,fp,fl,ft,fm,fk⟩:=fb
 unfold Opn.agg
 unfold Opn.cells at HBX
 dsimp only at HBX kF kG kB hp kH ⊢
 have KF:=uZ kF
 have KG:=uZ kG
 have KB:=uZ kB
 have Hp:=uZ hp
 have KH:=uZ kH
 clear kF kG kB hp kH
 have GA:=uZ ((((uX w).alloc (.cells [.slice Ar t.roots.length cr,.slice Ab t.brs.length cb].toArray 35)).alloc (.cells [.int .i64 i,.int .i64 d,.int .i64 k,.int .i64 u,.int .i64 p,.int .i64 b,.int .i64 l,.string tt,.string m,.int .i64 x9,.int .i64 x10,.int .i64 x11].toArray 25)).alloc (.cells [.slice none 0 0,.slice none 0 0].toArray 35))
 have HB:=uZ (fun W g=>HBX.out (.slice Ar t.roots.length cr) (.slice Ab t.brs.length cb) W g)
 clear HBX
 go_enter Tryz.func57,Tryz.ntmps57
 go_wp2_with fail
 generalize ((w.alloc (.cells [.slice Ar t.roots.length cr,.slice Ab t.brs.length cb].toArray 35)).alloc (.cells [.int .i64 i,.int .i64 d,.int .i64 k,.int .i64 u,.int .i64 p,.int .i64 b,.int .i64 l,.string tt,.string m,.int .i64 x9,.int .i64 x10,.int .i64 x11].toArray 25)).alloc (.cells [.slice none 0 0,.slice none 0 0].toArray 35)=WA at GA HB ⊢
 refine(KF.out _ GA.out).mono ?_
 rintro e w1 ⟨rfl,g1⟩
 have G1:=uZ (g1.alloc (.cells #[.int .i64 fi,.int .i64 fp,.int .i64 fl,.string ft,.string fm] 51))
 have HG1:=uZ (GA.out.trans G1.out)
 have HBU:=uZ (heap_allocE (a:=w1) (p:=(.cells #[.int .i64 fi,.int .i64 fp,.int .i64 fl,.string ft,.string fm] 51)) rfl)
 obtain⟨⟨r0,b0,a0,a1,a2,a3,a4,a5,a6,a7,a8,a9,a10,a11⟩,hR⟩:=HB.out _ G1.out
 obtain⟨q0,q1,z0,z1⟩:=res4 hR
 have HR:=uZ hR
 clear hR
 clear g1
 dsimp only
 have hpb:(p != 0)=false:=by simpa using Hp.out
 go_wp2_with fail
 refine(KG.out _ HG1.out).mono ?_
 rintro e w2 ⟨rfl,g2⟩
 have G2:=uZ ((G1.out.trans g2).alloc (.cells #[.int .i64 0,.int .i64 0,.int .i64 0,.string ⟨#[]⟩,.string ⟨#[]⟩] 51))
 have HG2:=uZ (GA.out.trans G2.out)
 have HU2:=uZ (uK (g2.alloc (.cells #[.int .i64 0,.int .i64 0,.int .i64 0,.string ⟨#[]⟩,.string ⟨#[]⟩] 51)) HBU.out)
 clear r0 b0 a0 a1 a2 a3 a4 a5 a6 a7 a8 a9 a10 a11 q0 q1 z0 z1 HR g2 HBU
 obtain⟨⟨r0,b0,a0,a1,a2,a3,a4,a5,a6,a7,a8,a9,a10,a11⟩,hR⟩:=HB.out _ G2.out
 obtain⟨q0,q1,z0,z1⟩:=res4 hR
 have HR:=uZ hR
 clear hR
 generalize w1.heap.size=BU at HU2 ⊢
 dsimp only
 go_wp2_with fail
 generalize w2.alloc (.cells #[.int .i64 0,.int .i64 0,.int .i64 0,.string ⟨#[]⟩,.string ⟨#[]⟩] 51)=wY at G2 HG2 HU2 r0 b0 a0 a1 a2 a3 a4 a5 a6 a7 a8 a9 a10 a11 q0 q1 z0 z1 HR ⊢
 exact c_34
set_option maxHeartbeats 16000000 in
set_option maxRecDepth 100000 in
theorem refMoveLevZ (t:Tr) (o:Opn) (rv bv:Value) (w:World) (hr:SlI w rv t.roots) (hv:SlBr w bv t.brs) (hf:FewBr t.brs) (hrl:t.roots.length≤1000000) (hT:RightT t) (hm:∀ i (h:i<t.brs.length),t.brs[i].mark.size≤9223372036854775807) {fb:Br} (ho:brFind t.brs o.unit=some fb) (hp:o.parent=0) (hn:brFind t.brs o.parent=none) (hc:o.parent∉belowT t o.unit) {n:Int} (hl:levR t o.parent fb.level=n) (hn0:n≠0):Calls Tryz.prog 57 #[.agg #[rv,bv],o.agg] w (RetTr (t,n) w):=by
 have HTT:=uZ (fun W (hW:Grew w W)=>(⟨hr.mono hW,hv.mono hW⟩:TrOk W rv bv t))
 have kF:=fun W (hW:Grew w W)=>refFind19 t.brs o.unit rv bv W (hv.mono hW)
 rw[ho] at kF
 unfold TFindEnd at kF
 dsimp only [Option.getD_some,Option.isSome_some] at kF
 have hin:=find_in ho
 have kG:=fun W (hW:Grew w W)=>refFind19 t.brs o.parent rv bv W (hv.mono hW)
 rw[hn] at kG
 unfold TFindEnd at kG
 dsimp only [Option.getD_none,Option.isSome_none,br0] at kG
 have kB:=fun W (hW:Grew w W)=>refBelow t.roots t.brs o.unit rv bv W (hr.mono hW) (hv.mono hW) hf hrl hm
 rw[show belowR ⟨t.roots,t.brs⟩ o.unit=_ from belowR_there hT (.inr ⟨fb,hin.1,hin.2⟩)] at kB
 clear hin
 have kH:=fun v W h=>ref21Has (belowT t o.unit) o.parent v W h
 rw[decide_eq_false hc] at kH
 have kL:=fun W (hW:Grew w W)=>lev21 t o.parent fb.level rv bv W (hr.mono hW) (hv.mono hW)
 rw[hl] at kL
 have HBX:=uZ (ref_box w o)
 obtain⟨Ar,cr,rfl,-⟩:=SlI.open_ hr
 obtain⟨Ab,cb,rfl,-⟩:=SlBr.open_ hv
 clear hr hv hf hrl
 obtain⟨i,d,k,u,p,b,l,tt,m,x9,x10,x11⟩:=o
 obtain⟨fi,fp,fl,ft,fm,fk⟩:=fb
 unfold Opn.agg
 unfold Opn.cells at HBX
 dsimp only at HBX kF kG kB hp kH kL ⊢
 have KF:=uZ kF
 have KG:=uZ kG
 have KB:=uZ kB
 have Hp:=uZ hp
 have KH:=uZ kH
 have KL:=uZ kL
 clear kF kG kB hp kH kL
 have GA:=uZ ((((uX w).alloc (.cells [.slice Ar t.roots.length cr,.slice Ab t.brs.length cb].toArray 35)).alloc (.cells [.int .i64 i,.int .i64 d,.int .i64 k,.int .i64 u,.int .i64 p,.int .i64 b,.int .i64 l,.string tt,.string m,.int .i64 x9,.int .i64 x10,.int .i64 x11].toArray 25)).alloc (.cells [.slice none 0 0,.slice none 0 0].toArray 35))
 have HB:=uZ (fun W g=>HBX.out (.slice Ar t.roots.length cr) (.slice Ab t.brs.length cb) W g)
 clear HBX
 go_enter Tryz.func57,Tryz.ntmps57
 go_wp2_with fail
 generalize ((w.alloc (.cells [.slice Ar t.roots.length cr,.slice Ab t.brs.length cb].toArray 35)).alloc (.cells [.int .i64 i,.int .i64 d,.int .i64 k,.int .i64 u,.int .i64 p,.int .i64 b,.int .i64 l,.string tt,.string m,.int .i64 x9,.int .i64 x10,.int .i64 x11].toArray 25)).alloc (.cells [.slice none 0 0,.slice none 0 0].toArray 35)=WA at GA HB ⊢
 refine(KF.out _ GA.out).mono ?_
 rintro e w1 ⟨rfl,g1⟩
 have G1:=uZ (g1.alloc (.cells #[.int .i64 fi,.int .i64 fp,.int .i64 fl,.string ft,.string fm] 51))
 have HG1:=uZ (GA.out.trans G1.out)
 have HBU:=uZ (heap_allocE (a:=w1) (p:=(.cells #[.int .i64 fi,.int .i64 fp,.int .i64 fl,.string ft,.string fm] 51)) rfl)
 obtain⟨⟨r0,b0,a0,a1,a2,a3,a4,a5,a6,a7,a8,a9,a10,a11⟩,hR⟩:=HB.out _ G1.out
 obtain⟨q0,q1,z0,z1⟩:=res4 hR
 have HR:=uZ hR
 clear hR
 clear g1
 dsimp only
 have hpb:(p != 0)=false:=by simpa using Hp.out
 go_wp2_with fail
 refine(KG.out _ HG1.out).mono ?_
 rintro e w2 ⟨rfl,g2⟩
 have G2:=uZ ((G1.out.trans g2).alloc (.cells #[.int .i64 0,.int .i64 0,.int .i64 0,.string ⟨#[]⟩,.string ⟨#[]⟩] 51))
 have HG2:=uZ (GA.out.trans G2.out)
 have HU2:=uZ (uK (g2.alloc (.cells #[.int .i64 0,.int .i64 0,.int .i64 0,.string ⟨#[]⟩,.string ⟨#[]⟩] 51)) HBU.out)
 clear r0 b0 a0 a1 a2 a3 a4 a5 a6 a7 a8 a9 a10 a11 q0 q1 z0 z1 HR g2 HBU
 obtain⟨⟨r0,b0,a0,a1,a2,a3,a4,a5,a6,a7,a8,a9,a10,a11⟩,hR⟩:=HB.out _ G2.out
 obtain⟨q0,q1,z0,z1⟩:=res4 hR
 have HR:=uZ hR
 clear hR
 generalize w1.heap.size=BU at HU2 ⊢
 dsimp only
 go_wp2_with fail
 generalize w2.alloc (.cells #[.int .i64 0,.int .i64 0,.int .i64 0,.string ⟨#[]⟩,.string ⟨#[]⟩] 51)=wY at G2 HG2 HU2 r0 b0 a0 a1 a2 a3 a4 a5 a6 a7 a8 a9 a10 a11 q0 q1 z0 z1 HR ⊢
 exact c_31
end Go.Proofs.YtafncfomiolmgaaGreatDoor