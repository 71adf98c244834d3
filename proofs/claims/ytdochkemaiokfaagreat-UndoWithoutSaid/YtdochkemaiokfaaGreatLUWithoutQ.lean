/- UndoWithout, walked; awake is given as hA. The condition: the number is a number of an int. -/
import Derived.Test.YtdochkemaiokfaaGreatQ38
import Derived.Test.YtdochkemaiokfaaGreatLUcQ
import Derived.Test.YtdochkemaiokfaaGreatQ2
namespace Go.Proofs.YtdochkemaiokfaaGreat
open Go.RowKit
theorem rest_wf {l:List Opn} {u:Int} (hwf:∀ i (h:i<l.length),WfO l[i]):∀ i (h:i<(restL l u).length),WfO (restL l u)[i]:=fun i h=>by
 obtain⟨j,hj,e⟩:=List.mem_iff_getElem.1 (List.mem_filter.1 (List.getElem_mem h)).1
 have:=hwf j hj
 rw[e] at this
 exact this
set_option maxHeartbeats 8000000 in
set_option maxRecDepth 100000 in
theorem without_of (l:List Opn) (hwf:∀ i (h:i<l.length),WfO l[i]) (lv:Value) (u:Int) (hu:(Lit.int .i64 u).wf=true) (w:World) (hE:Env w) (hv:SlO w lv l) (hA:∀ W,Grew w W→Calls Tryz.prog 11 #[] W fun e W'=>e=.returned (.bool true)∧Grew W W'):Calls Tryz.prog 7 #[lv,.int .i64 u] w fun e w'=>e=.returned (.bool true)∧Grew w w':=by
 have KA:=Lib.hid hA
 have KW:=Lib.hid (fun W (g:Grew w W)=>few22 l lv W (hv.mono g))
 have KCL:=Lib.hid (fun W (g:Grew w W) (h:l.length≤24)=>cloneO l lv W (hv.mono g) (by omega))
 have KN:=Lib.hid (fun W (g:Grew w W)=>lNext l u lv W (hv.mono g))
 have KCT:=Lib.hid (fun(h:l.length≤24) v W (g:Grew w W) (hs:SlO W v l)=>uCountsX l hwf v W (hE.mono g) hs (by omega))
 have KAD:=Lib.hid (fun(h:l.length≤24) v W (g:Grew w W) (h2:SlO W v l)=>uAdmitX l (nextW l u) hwf (nextW_wf l u hu) v W (hE.mono g) h2 (by omega))
 have KR:=Lib.hid (fun DB base v W (h1:base≤W.heap.size) ho (hb:DB<base) hc=>lRest l u DB base v W h1 ho hb hc)
 have HC:=Lib.hid (show(countsR l).2≠0→(countsR l).1=[] from fun h=>by
  unfold countsR at h ⊢
  by_cases h0:(keepF l).2.2=0
  ·rw[if_pos h0] at h
   exact absurd rfl h
  ·rw[if_neg h0])
 have HW:=Lib.hid (show(countsR l).2=0→((countsR l).1.any fun y=>(u == y))=true→(admR l (nextW l u)).2.2=0→treeR (admR l (nextW l u)).1=((replayF (restL l u)).1,0)∧((treeR (restL l u)).2=0→(treeR (restL l u)).1=(replayF (restL l u)).1) from fun h1 h2 h3=>by
  refine without_law h3 ?_
  unfold countsR at h2
  rw[if_pos (by rw[keep_of (adm_of h3).1])] at h2
  obtain⟨y,hy,e⟩:=List.any_eq_true.1 h2
  rw[eq_of_beq e]
  exact hy)
 have hwm:(admR l (nextW l u)).2.2=0→∀ x∈(admR l (nextW l u)).1,WfO x:=fun h x hx=>by
  rw[(adm_of h).2.2.1] at hx
  rcases List.mem_append.1 hx with hx|hx
  ·obtain⟨j,hj,e⟩:=List.mem_iff_getElem.1 hx
   rw[← e]
   exact hwf j hj
  ·rw[List.mem_singleton.1 hx]
   exact nextW_wf l u hu
 have KT:=Lib.hid (fun(h:l.length≤24) (h0:(admR l (nextW l u)).2.2=0) v W (g:Grew w W) hs=>uTree (admR l (nextW l u)).1 (fun i hi=>hwm h0 _ (List.getElem_mem hi)) v W (hE.mono g) hs (by
  rw[(adm_of h0).2.2.1]
  simp only [List.length_append,List.length_singleton]
  omega))
 have KT2:=Lib.hid (fun(h:l.length≤24) v W (g:Grew w W) hs=>uTree (restL l u) (rest_wf hwf) v W (hE.mono g) hs (by have:=List.length_filter_le (fun o:Opn=>!(o.id == u || (o.kind == 6 && o.unit == u))) l;unfold restL;omega))
 obtain⟨A,c,rfl,hlc,hcap,hr⟩:=hv.open_
 unfold maxLen at hcap
 clear hA hwf hE hv hr hu hwm
 unfold RetTr at KT KT2
 unfold RetNs at KCT
 generalize treeR (restL l u)=T2 at *
 generalize (replayF (restL l u)).1=TR at *
 generalize restL l u=RL at *
 generalize countsR l=C0 at *
 generalize hAR:admR l (nextW l u)=AR at *
 generalize nextW l u=NX at *
 unfold RetAd at KAD
 obtain⟨n0,n1,n2,n3,n4,n5,n6,n7,n8,n9,n10,n11⟩:=NX
 unfold Opn.agg at KN KAD
 dsimp only at KN KAD
 have HAR:=Lib.hid hAR
 clear hAR
 go_enter Tryz.func7,Tryz.ntmps7
 have HU0:=Lib.hid (heapNew w (.cells #[.int .i64 u] 3))
 have HGU:=Lib.hid ((Grew.refl w).alloc (.cells #[.int .i64 u] 3))
 go_wp2_with fail
 generalize w.alloc (.cells #[.int .i64 u] 3)=w1 at *
 generalize w.heap.size=UB at *
 refine(KA.out _ HGU.out).mono ?_
 rintro e wa ⟨rfl,ga⟩
 have HG:=Lib.hid (HGU.out.trans ga)
 have HU1:=Lib.hid (heapKeep ga HU0.out)
 clear ga HU0 HGU
 dsimp only
 go_wp2_with fail
 refine(KW.out _ HG.out).mono ?_
 rintro e wb ⟨q,rfl,hq,gb⟩
 have HQ:=Lib.hid hq
 have HG2:=Lib.hid (HG.out.trans gb)
 have HU2:=Lib.hid (heapKeep gb HU1.out)
 clear hq gb HG HU1
 dsimp only
 cases q
 case false =>
  clear HQ
  go_wp2_with fail
  refine(KA.out _ HG2.out).mono ?_
  rintro e wz ⟨rfl,g3⟩
  have HG3:=Lib.hid (HG2.out.trans g3)
  clear g3
  dsimp only
  go_wp2
  go_ret
  exact⟨rfl,HG3.out⟩
 case true =>
  have HF:=Lib.hid (HQ.out (by first|rfl|trivial))
  have hf24:=Lib.hid HF.out.2
  clear HQ
  go_wp2_with fail
  refine(KCL.out _ HG2.out hf24.out).mono ?_
  rintro e wc ⟨v1,rfl,ho,gc⟩
  have HG3:=Lib.hid (HG2.out.trans gc)
  have HS3:=Lib.hid (show SlO wc v1 l from Rd.of_own ho)
  have HU3:=Lib.hid (heapKeep gc HU2.out)
  obtain⟨A1,c1,rfl⟩:=own_slice ho
  clear ho gc HU2
  dsimp only
  go_wp2_with fail
  refine(KCT.out hf24.out _ _ HG3.out HS3.out).mono ?_
  rintro e wd ⟨cv,rfl,hcv,gd⟩
  have HG4:=Lib.hid (HG3.out.trans gd)
  have HU4:=Lib.hid (heapKeep gd HU3.out)
  obtain⟨CA,cc,hCA,-⟩:=SlI.open_ hcv
  subst hCA
  have HCV:=Lib.hid hcv
  clear gd HS3 HU3 hcv
  obtain⟨CS,ec⟩:=C0
  dsimp only at HC HW HCV ⊢
  have u0:wd.cell? ⟨UB,0,none⟩=some (.int .i64 u):=cellOf HU4.out rfl
  by_cases hec:ec=0
  case neg =>
   have hbn:(ec != 0)=true:=by simpa using hec
   have hcs:CS=[]:=HC.out hec
   subst hcs
   clear hec
   go_wp2
   go_ret
   exact⟨rfl,HG4.out⟩
  case pos =>
   subst hec
   have hbn:((0:Int) != 0)=false:=rfl
   go_wp2_with fail
   refine(containsI CS u _ _ HCV.out).mono ?_
   rintro e we ⟨rfl,rfl⟩
   generalize hany:(CS.any fun y=>(u == y))=any at HW ⊢
   cases any
   case false =>
    clear HW hany
    dsimp only
    by_cases h0:CS.length=0
    ·have hb:((CS.length:Int) == 0)=true:=by simp[h0]
     have hb2:(CS.length == 0)=true:=by simp[h0]
     clear h0
     go_wp2
     go_ret
     exact⟨rfl,HG4.out⟩
    ·have hb:((CS.length:Int) == 0)=false:=by rw[beq_eq_false_iff_ne];omega
     have hb2:(CS.length == 0)=false:=by rw[beq_eq_false_iff_ne];omega
     clear h0
     go_wp2
     go_ret
     exact⟨rfl,HG4.out⟩
   case true =>
    have HW1:=Lib.hid (HW.out (by first|rfl|trivial) (by first|rfl|trivial))
    clear HW hany HC HCV hbn
    have KCL1:=Lib.hid (fun W g=>KCL.out W g hf24.out)
    have KAD1:=Lib.hid (KAD.out hf24.out)
    have HGD:=Lib.hid HG4.out
    have HUD:=Lib.hid HU4.out
    dsimp only
    go_wp2_with fail
    go_cut [7,8,9] from 45 to 53 (fun s4 s5 s6 wx=>AdCut wd AR s4 s5 s6 wx)
    case first =>
     have HSS:=Lib.hid (fun W (g:Grew wd W)=>(⟨keep_cell g u0,g⟩:W.cell? ⟨UB,0,none⟩=some (.int .i64 u)∧Grew wd W))
     go_region_held3 (fun W=>W.cell? ⟨UB,0,none⟩=some (.int .i64 u)∧Grew wd W) (refine HSS.out _ (by repeat (with_reducible first|exact Grew.refl _|exact GQ3.out|exact GQ2.out|exact GQ1.out|refine Grew.drew ?_|refine Grew.alloc ?_ _))) (first|(go_at_call 15;(with_reducible refine(KCL1.out _ (HGD.out.trans (by repeat (with_reducible first|exact Grew.refl _|exact GQ3.out|exact GQ2.out|exact GQ1.out|refine Grew.drew ?_|refine Grew.alloc ?_ _)))).mono ?_);rintro e w5 ⟨v5,rfl,h5,gq⟩;obtain⟨A5,c5,rfl⟩:=own_slice h5;first|(have GX:=Lib.hid (show Grew w6 w5 from Grew.trans (by repeat (with_reducible first|exact Grew.refl _|refine Grew.drew ?_|refine Grew.alloc ?_ _)) gq);have GQ2:=Lib.hid (GQ1.out.trans GX.out))|(have GQ1:=Lib.hid (show Grew wd w5 from Grew.trans (by repeat (with_reducible first|exact Grew.refl _|refine Grew.drew ?_|refine Grew.alloc ?_ _)) gq));have HLS:=Lib.hid (show SlO w5 _ l from Rd.of_own h5);clear h5 gq)|(go_at_call 34;(with_reducible refine(KN.out _ (HGD.out.trans (by repeat (with_reducible first|exact Grew.refl _|exact GQ3.out|exact GQ2.out|exact GQ1.out|refine Grew.drew ?_|refine Grew.alloc ?_ _)))).mono ?_);rintro e w6 ⟨rfl,gq⟩;first|(have GX:=Lib.hid (show Grew w5 w6 from Grew.trans (by repeat (with_reducible first|exact Grew.refl _|refine Grew.drew ?_|refine Grew.alloc ?_ _)) gq);have GQ2:=Lib.hid (GQ1.out.trans GX.out);have HLS2:=Lib.hid (HLS.out.mono GX.out))|(have GQ1:=Lib.hid (show Grew wd w6 from Grew.trans (by repeat (with_reducible first|exact Grew.refl _|refine Grew.drew ?_|refine Grew.alloc ?_ _)) gq));clear gq)|(go_at_call 17;(with_reducible refine(KAD1.out _ _ (HGD.out.trans (GQ2.out.trans (by repeat (with_reducible first|exact Grew.refl _|refine Grew.drew ?_|refine Grew.alloc ?_ _)))) (by first|exact HLS2.out.mono (by repeat (with_reducible first|exact Grew.refl _|refine Grew.drew ?_|refine Grew.alloc ?_ _))|exact HLS.out.mono (by repeat (with_reducible first|exact Grew.refl _|refine Grew.drew ?_|refine Grew.alloc ?_ _)))).mono ?_);rintro e w7 ⟨v7,rfl,h7,gq⟩;have GQ3:=Lib.hid (GQ2.out.trans (Grew.trans (by repeat (with_reducible first|exact Grew.refl _|refine Grew.drew ?_|refine Grew.alloc ?_ _)) gq));obtain⟨A7,c7,hA7,-⟩:=h7.open_;subst hA7;have HO7:=Lib.hid h7;clear h7 gq))
     all_goals go_wp2_with fail
     all_goals go_meet
     all_goals exact ad_meet HO7.out GQ3.out
    case rest =>
     obtain⟨A4,c4',rfl,rfl,rfl,HL4,GC⟩:=hcut
     have HG5:=Lib.hid (HGD.out.trans GC.out)
     have HU5:=Lib.hid (heapKeep GC.out HUD.out)
     have HSL:=Lib.hid HL4.out
     clear u0 GC HL4 KN KAD1 KAD HGD HUD HG4 HU4
     obtain⟨m2,i2,e2⟩:=AR
     dsimp only at HSL ⊢
     by_cases hn:e2=0
     case neg =>
      have hbn:(e2 != 0)=true:=by simpa using hn
      clear hn
      go_wp2
      go_ret
      exact⟨rfl,HG5.out⟩
     case pos =>
      subst hn
      have hbn:((0:Int) != 0)=false:=rfl
      obtain⟨ht1,ht2⟩:=HW1.out rfl
      have HT2:=Lib.hid ht2
      have KT1:=Lib.hid (KT.out hf24.out rfl)
      clear HW1 KT ht2
      dsimp only at KT1 ht1
      rw[ht1] at KT1
      clear ht1
      dsimp only at KT1
      go_wp2_with fail
      refine(KCL1.out _ HG5.out).mono ?_
      rintro e wf ⟨v5,rfl,ho,gc⟩
      have HSZ:=Lib.hid gc.size
      have HLT:=Lib.hid (Array.getElem?_eq_some_iff.1 HU5.out).1
      have HSF:=Lib.hid (HSL.out.mono gc)
      have hc5:wf.cell? ⟨UB,0,none⟩=some (.int .i64 u):=cellOf (heapKeep gc HU5.out) rfl
      have KR1:=Lib.hid (KR.out UB _ _ _ gc.size ho HLT.out hc5)
      have HGF:=Lib.hid gc
      obtain⟨A5,c5,rfl⟩:=own_slice ho
      clear ho gc hc5
      dsimp only
      go_wp2_with fail
      refine KR1.out.mono ?_
      rintro e wg ⟨v6,rfl,ho6,b6⟩
      have gg:=Below.trans HGF.out b6
      have HG7:=Lib.hid (HG5.out.trans gg)
      have HSG:=Lib.hid (HSL.out.mono gg)
      have HS7:=Lib.hid (show SlO wg v6 RL from Rd.of_own ho6)
      obtain⟨A6,c6,rfl⟩:=own_slice ho6
      clear ho6 b6 gg KR1 HSF HSL
      dsimp only
      go_wp2_with fail
      refine(KT1.out _ _ HG7.out HSG.out).mono ?_
      rintro e w8 ⟨rv,bv,rfl,ht,g8⟩
      obtain⟨RA,ra,hRA,-⟩:=SlI.open_ (v:=rv) (tr_i ht)
      subst hRA
      obtain⟨RB,rb,hRB,-⟩:=SlBr.open_ (v:=bv) (tr_br ht)
      subst hRB
      have HG8:=Lib.hid (HG7.out.trans g8)
      have HS8:=Lib.hid (HS7.out.mono g8)
      have HT8:=Lib.hid ht
      clear ht g8 KT1 HS7 HSG
      dsimp only
      have HBE:=Lib.hid (heapNew w8 (.cells #[.slice RA TR.roots.length ra,.slice RB TR.brs.length rb] 43))
      have HGE:=Lib.hid (HG8.out.alloc (.cells #[.slice RA TR.roots.length ra,.slice RB TR.brs.length rb] 43))
      have HSE:=Lib.hid (HS8.out.mono ((Grew.refl w8).alloc (.cells #[.slice RA TR.roots.length ra,.slice RB TR.brs.length rb] 43)))
      have HTE:=Lib.hid (HT8.out.mono ((Grew.refl w8).alloc (.cells #[.slice RA TR.roots.length ra,.slice RB TR.brs.length rb] 43)))
      go_wp2_with fail
      generalize w8.alloc (.cells #[.slice RA TR.roots.length ra,.slice RB TR.brs.length rb] 43)=wE at *
      generalize w8.heap.size=TE at *
      refine(KT2.out hf24.out _ _ HGE.out HSE.out).mono ?_
      rintro e wF ⟨rv2,bv2,rfl,ht,g10⟩
      obtain⟨RC,rc,hRC,-⟩:=SlI.open_ (v:=rv2) (tr_i ht)
      subst hRC
      obtain⟨RD,rd,hRD,-⟩:=SlBr.open_ (v:=bv2) (tr_br ht)
      subst hRD
      obtain⟨t2,e2⟩:=T2
      dsimp only at HT2 ht ⊢
      have gX:=(Grew.refl wF).alloc (.cells #[.slice RC t2.roots.length rc,.slice RD t2.brs.length rd] 43)
      have HBG:=Lib.hid (heapNew wF (.cells #[.slice RC t2.roots.length rc,.slice RD t2.brs.length rd] 43))
      have HG11:=Lib.hid ((HGE.out.trans g10).alloc (.cells #[.slice RC t2.roots.length rc,.slice RD t2.brs.length rd] 43))
      have HB11:=Lib.hid (heapKeep (g10.trans gX) HBE.out)
      have HT11:=Lib.hid (HTE.out.mono (g10.trans gX))
      have HTG:=Lib.hid (ht.mono gX)
      clear gX ht g10 KT2
      obtain⟨wH,hwH⟩:∃ wH,wF.alloc (.cells #[.slice RC t2.roots.length rc,.slice RD t2.brs.length rd] 43)=wH:=⟨_,rfl⟩
      rw[hwH] at HBG HG11 HB11 HT11 HTG
      by_cases he2:e2=0
      case neg =>
       have hbe:(e2 != 0)=true:=by simpa using he2
       clear he2
       go_wp2_with fail
       go_ret
       exact⟨rfl,by first|exact HG11.out|(rw[hwH];exact HG11.out)⟩
      case pos =>
       subst he2
       have hte:t2=TR:=HT2.out rfl
       subst hte
       have hbe:((0:Int) != 0)=false:=rfl
       have HS:=Lib.hid (same19 t2 _ _ _ _ _ HT11.out HTG.out)
       have a0:wH.cell? ⟨TE,0,none⟩=some (.slice RA t2.roots.length ra):=cellOf HB11.out rfl
       have a1:wH.cell? ⟨TE,1,none⟩=some (.slice RB t2.brs.length rb):=cellOf HB11.out rfl
       have e0:wH.cell? ⟨wF.heap.size,0,none⟩=some (.slice RC t2.roots.length rc):=cellOf HBG.out rfl
       have e1:wH.cell? ⟨wF.heap.size,1,none⟩=some (.slice RD t2.brs.length rd):=cellOf HBG.out rfl
       go_wp2_with fail
       refine HS.out.mono ?_
       rintro e wz ⟨rfl,gz⟩
       have HGZ:=Lib.hid (HG11.out.trans gz)
       clear gz
       dsimp only
       go_wp2
       go_ret
       exact⟨rfl,HGZ.out⟩
end Go.Proofs.YtdochkemaiokfaaGreat