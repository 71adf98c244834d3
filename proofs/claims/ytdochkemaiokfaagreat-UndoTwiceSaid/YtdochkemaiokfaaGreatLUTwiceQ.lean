/- UndoTwice, walked; awake is given as hA. The condition: the number is a number of an int. -/
import Derived.Test.YtdochkemaiokfaaGreatQ38
namespace Go.Proofs.YtdochkemaiokfaaGreat
open Go.RowKit
theorem admR_eta (l:List Opn) (o:Opn) (h:(admR l o).2.2=0):admR l o=((admR l o).1,-1,0):=by
 have:=(adm_of h).2.2.1
 rw[this]
set_option maxHeartbeats 8000000 in
set_option maxRecDepth 100000 in
theorem twice_of (l:List Opn) (hwf:∀ i (h:i<l.length),WfO l[i]) (lv:Value) (u:Int) (hu:(Lit.int .i64 u).wf=true) (w:World) (hE:Env w) (hv:SlO w lv l) (hA:∀ W,Grew w W→Calls Tryz.prog 11 #[] W fun e W'=>e=.returned (.bool true)∧Grew W W'):Calls Tryz.prog 6 #[lv,.int .i64 u] w fun e w'=>e=.returned (.bool true)∧Grew w w':=by
 have KA:=Lib.hid hA
 have KW:=Lib.hid (fun W (g:Grew w W)=>few22 l lv W (hv.mono g))
 have HV:=Lib.hid hv
 have KCL:=Lib.hid (fun W (g:Grew w W) (h:l.length≤24)=>cloneO l lv W (hv.mono g) (by omega))
 have KN:=Lib.hid (fun W (g:Grew w W)=>lNext l u lv W (hv.mono g))
 have KT0:=Lib.hid (fun(h:l.length≤24) v W (g:Grew w W) (hs:SlO W v l)=>uTree l hwf v W (hE.mono g) hs (by omega))
 have KAD:=Lib.hid (fun(h:l.length≤24) v W (g:Grew w W) (h2:SlO W v l)=>uAdmitX l (nextW l u) hwf (nextW_wf l u hu) v W (hE.mono g) h2 (by omega))
 have HL1:=Lib.hid (show(treeR l).2≠0∨(admR l (nextW l u)).2.2≠0→(admR l (nextW l u)).1=[] from fun h=>by
  by_cases h0:(admR l (nextW l u)).2.2=0
  ·have h1:=tree_of (adm_of h0).1
   rw[h1] at h
   rcases h with h|h
   ·exact absurd rfl h
   ·exact absurd h0 h
  ·exact adm_no h0)
 have HL2:=Lib.hid (show(admR l (nextW l u)).2.2=0→(admR l (nextW l u)).1=l++[nextW l u]∧admR l (nextW l u)=((admR l (nextW l u)).1,-1,0) from fun h=>⟨by rw[(adm_of h).2.2.1],admR_eta l _ h⟩)
 have hwm:(admR l (nextW l u)).2.2=0→∀ x∈(admR l (nextW l u)).1++[nextW (admR l (nextW l u)).1 u],WfO x:=fun h x hx=>by
  rw[(adm_of h).2.2.1] at hx
  rcases List.mem_append.1 hx with hx|hx
  ·rcases List.mem_append.1 hx with hx|hx
   ·obtain⟨j,hj,e⟩:=List.mem_iff_getElem.1 hx
    rw[← e]
    exact hwf j hj
   ·rw[List.mem_singleton.1 hx]
    exact nextW_wf l u hu
  ·rw[List.mem_singleton.1 hx]
   exact nextW_wf _ u hu
 have hlm:l.length≤24→(admR l (nextW l u)).2.2=0→(admR l (nextW l u)).1.length≤25:=fun h h0=>by
  rw[(adm_of h0).2.2.1]
  simp only [List.length_append,List.length_singleton]
  omega
 have KCL2:=Lib.hid (fun(h:l.length≤24) (h0:(admR l (nextW l u)).2.2=0) v W (hs:SlO W v (admR l (nextW l u)).1)=>cloneO (admR l (nextW l u)).1 v W hs (by have:=hlm h h0;omega))
 have KN2:=Lib.hid (fun v W (hs:SlO W v (admR l (nextW l u)).1)=>lNext (admR l (nextW l u)).1 u v W hs)
 have KAD2:=Lib.hid (fun(h:l.length≤24) (h0:(admR l (nextW l u)).2.2=0) (hid:(nextW l u).id≠1073741824) v W (g:Grew w W) (hs:SlO W v (admR l (nextW l u)).1)=>by
  have:=uAdmitX (admR l (nextW l u)).1 (nextW (admR l (nextW l u)).1 u) (fun i hi=>hwm h0 _ (List.mem_append_left _ (List.getElem_mem hi))) (nextW_wf _ u hu) v W (hE.mono g) hs (by have:=hlm h h0;omega)
  rw[show admR (admR l (nextW l u)).1 (nextW (admR l (nextW l u)).1 u)=((admR l (nextW l u)).1++[nextW (admR l (nextW l u)).1 u],-1,0) from by
   have h1:=(twice_law h h0 hid)
   rw[h1.1]
   exact h1.2.2.1] at this
  unfold RetAd at this
  exact this)
 have KT2:=Lib.hid (fun(h:l.length≤24) (h0:(admR l (nextW l u)).2.2=0) (hid:(nextW l u).id≠1073741824) v W (g:Grew w W) (hs:SlO W v ((admR l (nextW l u)).1++[nextW (admR l (nextW l u)).1 u]))=>by
  have:=uTree ((admR l (nextW l u)).1++[nextW (admR l (nextW l u)).1 u]) (fun i hi=>hwm h0 _ (List.getElem_mem hi)) v W (hE.mono g) hs (by have:=hlm h h0;rw[List.length_append,List.length_singleton];omega)
  rw[show treeR ((admR l (nextW l u)).1++[nextW (admR l (nextW l u)).1 u])=treeR l from by
   have h1:=(twice_law h h0 hid)
   rw[h1.2.1,h1.1]
   exact h1.2.2.2] at this
  unfold RetTr at this
  exact this)
 clear hwm hlm
 obtain⟨A,c,rfl,hlc,hcap,hr⟩:=hv.open_
 unfold maxLen at hcap
 clear hA hwf hE hv hr hu
 unfold RetTr at KT0
 generalize (admR l (nextW l u)).1++[nextW (admR l (nextW l u)).1 u]=R2 at KAD2 KT2
 generalize nextW (admR l (nextW l u)).1 u=NY at KN2 KAD2
 generalize treeR l=T0 at *
 generalize hAR:admR l (nextW l u)=AR at *
 generalize nextW l u=NX at *
 unfold RetAd at KAD
 obtain⟨n0,n1,n2,n3,n4,n5,n6,n7,n8,n9,n10,n11⟩:=NX
 obtain⟨y0,y1,y2,y3,y4,y5,y6,y7,y8,y9,y10,y11⟩:=NY
 unfold Opn.agg at KN KAD KN2 KAD2
 dsimp only at KN KAD KN2 KAD2 KT2
 clear hAR
 go_enter Tryz.func6,Tryz.ntmps6
 go_wp2_with fail
 refine(KA.out _ (Grew.refl w)).mono ?_
 rintro e wa ⟨rfl,ga⟩
 have HG:=Lib.hid ga
 clear ga
 dsimp only
 go_wp2_with fail
 refine(KW.out _ HG.out).mono ?_
 rintro e wb ⟨q,rfl,hq,gb⟩
 have HQ:=Lib.hid hq
 have HG2:=Lib.hid (HG.out.trans gb)
 clear hq gb HG
 dsimp only
 cases q
 case false =>
  clear HQ
  go_wp2_with fail
  refine(KA.out _ HG2.out).mono ?_
  rintro e wz ⟨rfl,g3⟩
  have HG3:=Lib.hid (HG2.out.trans g3)
  clear g3
  dsimp only
  go_wp2
  go_ret
  exact⟨rfl,HG3.out⟩
 case true =>
  have HF:=Lib.hid (HQ.out (by first|rfl|trivial))
  have hf24:=Lib.hid HF.out.2
  clear HQ
  go_wp2_with fail
  refine(KCL.out _ HG2.out hf24.out).mono ?_
  rintro e wc ⟨v1,rfl,ho,gc⟩
  have HG3:=Lib.hid (HG2.out.trans gc)
  have HS3:=Lib.hid (show SlO wc v1 l from Rd.of_own ho)
  obtain⟨A1,c1,rfl⟩:=own_slice ho
  clear ho gc
  dsimp only
  go_wp2_with fail
  refine(KT0.out hf24.out _ _ HG3.out HS3.out).mono ?_
  rintro e wd ⟨rv,bv,rfl,ht,gd⟩
  obtain⟨RA,ra,hRA,-⟩:=SlI.open_ (v:=rv) (tr_i ht)
  subst hRA
  obtain⟨RB,rb,hRB,-⟩:=SlBr.open_ (v:=bv) (tr_br ht)
  subst hRB
  have HG4:=Lib.hid (HG3.out.trans gd)
  have HT4:=Lib.hid ht
  clear ht gd HS3
  dsimp only
  have HBE:=Lib.hid (heapNew wd (.cells #[.slice RA T0.1.roots.length ra,.slice RB T0.1.brs.length rb] 43))
  have HGE:=Lib.hid (HG4.out.alloc (.cells #[.slice RA T0.1.roots.length ra,.slice RB T0.1.brs.length rb] 43))
  have HTE:=Lib.hid (HT4.out.mono ((Grew.refl wd).alloc (.cells #[.slice RA T0.1.roots.length ra,.slice RB T0.1.brs.length rb] 43)))
  clear HT4 HG4
  go_wp2_with fail
  generalize wd.alloc (.cells #[.slice RA T0.1.roots.length ra,.slice RB T0.1.brs.length rb] 43)=wE at *
  generalize wd.heap.size=TE at *
  refine(KCL.out _ HGE.out hf24.out).mono ?_
  rintro e wf ⟨v1,rfl,ho,gc⟩
  have HG5:=Lib.hid (HGE.out.trans gc)
  have HS5:=Lib.hid (show SlO wf v1 l from Rd.of_own ho)
  have HB5:=Lib.hid (heapKeep gc HBE.out)
  have HT5:=Lib.hid (HTE.out.mono gc)
  obtain⟨A1,c1,rfl⟩:=own_slice ho
  clear ho gc HGE HBE HTE
  dsimp only
  go_wp2_with fail
  refine(KN.out _ HG5.out).mono ?_
  rintro e wg ⟨rfl,gc⟩
  have HG6:=Lib.hid (HG5.out.trans gc)
  have HS6:=Lib.hid (HS5.out.mono gc)
  have HB6:=Lib.hid (heapKeep gc HB5.out)
  have HT6:=Lib.hid (HT5.out.mono gc)
  clear gc HG5 HS5 HB5 HT5
  dsimp only
  go_wp2_with fail
  refine(KAD.out hf24.out _ _ HG6.out HS6.out).mono ?_
  rintro e wh ⟨v7,rfl,h7,gc⟩
  have HG7:=Lib.hid (HG6.out.trans gc)
  have HB7:=Lib.hid (heapKeep gc HB6.out)
  have HT7:=Lib.hid (HT6.out.mono gc)
  obtain⟨A7,c7,hA7,hl7,hc7,hr7⟩:=h7.open_
  subst hA7
  have HS7:=Lib.hid h7
  have HR7:=Lib.hid hr7
  unfold maxLen at hc7
  clear gc HG6 HS6 HB6 HT6 h7 hr7
  obtain⟨M,ix,e2⟩:=AR
  obtain⟨T,et⟩:=T0
  dsimp only at HL1 HL2 KCL2 KN2 KAD2 KT2 hl7 HT7 HB7 HS7 HR7 ⊢
  by_cases hok:et=0∧e2=0
  case neg =>
   have hM:M=[]:=HL1.out (by omega)
   subst hM
   clear hl7 HL1 HL2 KCL2 KN2 KAD2 KT2 HR7
   by_cases h1:et=0
   case pos =>
    subst h1
    have hbn:(e2 != 0)=true:=by simp;omega
    have hbt:((0:Int) != 0)=false:=rfl
    clear hok
    go_wp2
    go_ret
    exact⟨rfl,HG7.out⟩
   case neg =>
    have hbt:(et != 0)=true:=by simpa using h1
    clear hok h1
    go_wp2
    go_ret
    exact⟨rfl,HG7.out⟩
  case pos =>
   obtain⟨rfl,rfl⟩:=hok
   have hbt:((0:Int) != 0)=false:=rfl
   obtain⟨hM,-⟩:=HL2.out rfl
   have HM:=Lib.hid hM
   have hml:M.length=l.length+1:=by rw[hM,List.length_append,List.length_singleton]
   obtain⟨k,hk⟩:∃ k,M.length=k+1:=⟨l.length,hml⟩
   obtain⟨b,off,rfl,hbb,hcell⟩:=HR7.out (by omega)
   obtain⟨c0,-⟩:=hcell wh (Grew.refl _) k (by omega)
   have hlast:M[k]=⟨n0,n1,n2,n3,n4,n5,n6,n7,n8,n9,n10,n11⟩:=by
    subst hM
    rw[List.getElem_append_right (by omega)]
    simp
   rw[hlast] at c0
   dsimp only at c0
   have KCL3:=Lib.hid (KCL2.out hf24.out rfl)
   have HKK:=Lib.hid hk
   have hl25:k≤24:=by have:=hf24.out;omega
   clear hcell hlast HL1 HL2 KCL2 HR7 hM hml hlc
   rw[hk] at hl7 ⊢
   have hsub:wrap64 (((k+1:Nat):Int)-1)=(k:Int):=by
    rw[show(((k+1:Nat):Int)-1)=(k:Int) by omega]
    unfold wrap64
    omega
   have hz:(((k+1:Nat):Int) == 0)=false:=by simp;omega
   have hz2:(k+1 == 0)=false:=by simp
   clear hk
   by_cases hid:n0=1073741824
   case pos =>
    have hbi:(n0 == 1073741824)=true:=by simpa using hid
    have hgt:(0:Int)<((k+1:Nat):Int):=by omega
    clear hid
    go_wp2
    go_ret
    exact⟨rfl,HG7.out⟩
   case neg =>
    have hbi:(n0 == 1073741824)=false:=by simpa using hid
    have KAD3:=Lib.hid (KAD2.out hf24.out rfl hid)
    have KT3:=Lib.hid (KT2.out hf24.out rfl hid)
    clear KAD2 KT2 hid
    have KC4:=Lib.hid (KCL3.out _ _ HS7.out)
    rw[HKK.out] at KC4
    go_wp2_with fail
    refine KC4.out.mono ?_
    rintro e wi ⟨v8,rfl,ho,gc⟩
    have HG8:=Lib.hid (HG7.out.trans gc)
    have HS8:=Lib.hid (HS7.out.mono gc)
    have HO8:=Lib.hid (show SlO wi v8 M from Rd.of_own ho)
    have HB8:=Lib.hid (heapKeep gc HB7.out)
    have HT8:=Lib.hid (HT7.out.mono gc)
    obtain⟨A8,c8,rfl⟩:=own_slice ho
    clear ho gc KC4 KCL3 HG7 HS7 HB7 HT7
    have KN4:=Lib.hid (KN2.out _ _ HS8.out)
    rw[HKK.out] at KN4
    dsimp only
    go_wp2_with fail
    refine KN4.out.mono ?_
    rintro e wj ⟨rfl,gc⟩
    have HG9:=Lib.hid (HG8.out.trans gc)
    have HO9:=Lib.hid (HO8.out.mono gc)
    have HB9:=Lib.hid (heapKeep gc HB8.out)
    have HT9:=Lib.hid (HT8.out.mono gc)
    clear gc HG8 HS8 HO8 HB8 HT8 KN4
    dsimp only
    go_wp2_with fail
    refine(KAD3.out _ _ HG9.out HO9.out).mono ?_
    rintro e wk ⟨v10,rfl,h10,gc⟩
    obtain⟨A10,c10,hA10,-⟩:=h10.open_
    subst hA10
    have HG10:=Lib.hid (HG9.out.trans gc)
    have HO10:=Lib.hid h10
    have HB10:=Lib.hid (heapKeep gc HB9.out)
    have HT10:=Lib.hid (HT9.out.mono gc)
    clear gc HG9 HO9 HB9 HT9 h10
    dsimp only
    go_wp2_with fail
    refine(KT3.out _ _ HG10.out HO10.out).mono ?_
    rintro e wF ⟨rv2,bv2,rfl,ht,g10⟩
    obtain⟨RC,rc,hRC,-⟩:=SlI.open_ (v:=rv2) (tr_i ht)
    subst hRC
    obtain⟨RD,rd,hRD,-⟩:=SlBr.open_ (v:=bv2) (tr_br ht)
    subst hRD
    have gX:=(Grew.refl wF).alloc (.cells #[.slice RC T.roots.length rc,.slice RD T.brs.length rd] 43)
    have HBG:=Lib.hid (heapNew wF (.cells #[.slice RC T.roots.length rc,.slice RD T.brs.length rd] 43))
    have HG11:=Lib.hid ((HG10.out.trans g10).alloc (.cells #[.slice RC T.roots.length rc,.slice RD T.brs.length rd] 43))
    have HB11:=Lib.hid (heapKeep (g10.trans gX) HB10.out)
    have HS:=Lib.hid (same19 T _ _ _ _ _ (HT10.out.mono (g10.trans gX)) (ht.mono gX))
    clear gX ht g10 KT3 HG10 HO10 HB10 HT10
    obtain⟨wH,hwH⟩:∃ wH,wF.alloc (.cells #[.slice RC T.roots.length rc,.slice RD T.brs.length rd] 43)=wH:=⟨_,rfl⟩
    rw[hwH] at HBG HG11 HB11 HS
    have a0:wH.cell? ⟨TE,0,none⟩=some (.slice RA T.roots.length ra):=cellOf HB11.out rfl
    have a1:wH.cell? ⟨TE,1,none⟩=some (.slice RB T.brs.length rb):=cellOf HB11.out rfl
    have e0:wH.cell? ⟨wF.heap.size,0,none⟩=some (.slice RC T.roots.length rc):=cellOf HBG.out rfl
    have e1:wH.cell? ⟨wF.heap.size,1,none⟩=some (.slice RD T.brs.length rd):=cellOf HBG.out rfl
    dsimp only
    go_wp2_with fail
    refine HS.out.mono ?_
    rintro e wz ⟨rfl,gz⟩
    have HGZ:=Lib.hid (HG11.out.trans gz)
    clear gz
    dsimp only
    go_wp2
    go_ret
    exact⟨rfl,HGZ.out⟩
end Go.Proofs.YtdochkemaiokfaaGreat