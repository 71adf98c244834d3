/- Lemmas on what the functions of the program and of the library compute: UnI, UnJ, UnL. The conditions stand at each. -/
import Derived.Test.YtdochkemaiokfaaGreatQ35
import Derived.Test.YtdochkemaiokfaaGreatQ27
/- undo: keep, walked: the operations admitted one after another. The conditions: the library's own variables hold what they must; the numbers are numbers of an int. -/
namespace Go.Proofs.YtdochkemaiokfaaGreat
open Go.RowKit Go.Maps
theorem uAdmit (l:List Opn) (o:Opn) (w0 w:World) (KB MB:Nat) (hE:Env w) (hK:KeepAt w0 KB MB l (replayF l).1 w) (hA:AdmL l) (hwf:∀ i (h:i<l.length),WfO l[i]) (hwo:WfO o) (hlen:l.length<1000000):Calls Tryz.prog 44 #[.pointer (some ⟨KB,0,none⟩),o.agg] w (RetAdm w0 KB MB l o (admitT l (replayF l).1 o)):=by
 by_cases h6:o.kind=6
 ·exact uAdmitUndo l o w0 w KB MB hE hK hA hwf hwo hlen h6
 ·exact uAdmitOp l o w0 w KB MB hE hK hA hwf hwo hlen h6
def RetKp (l:List Opn) (w:World) (R:Tr × Int × Int) (e:Ending) (w':World):Prop:=∃ p,e=.returned (.tuple #[p,.int .i64 R.2.1,.int .i64 R.2.2])∧Grew w w'∧(R.2.2=0→AdmL l∧∃ KB MB,p=.pointer (some ⟨KB,0,none⟩)∧KeepAt w KB MB l (replayF l).1 w')
theorem keep_new (w:World):KeepAt w (w.heap.size+1) w.heap.size [] (replayF []).1 ((w.alloc (.map #[] 0)).alloc (.cells #[.slice none 0 0,.slice none 0 0,.slice none 0 0,.slice none 0 0,.map (some w.heap.size)] 81)) where
 g:=((Grew.refl w).alloc _).alloc _
 kb:=by omega
 mb:=Nat.le_refl _
 cell:=⟨none,0,0,none,0,0,none,0,0,none,0,(by have:=heapNew (w.alloc (.map #[] 0)) (.cells #[.slice none 0 0,.slice none 0 0,.slice none 0 0,.slice none 0 0,.map (some w.heap.size)] 81);rw[World.size_alloc] at this;exact this),rfl,SlO.nil _,trOk_nil _,SlC.nil _⟩
 owns:=⟨0,_,(World.ownsMap_made _ _ _ _).alloc _,Nat.le_refl _,ownM_nil⟩
theorem keepI_step (l:List Opn) (k:Nat) (h:k<l.length) (t:Tr):keepI (l.take k) (l.drop k) t=if (admitT (l.take k) t l[k]).2.2=0 then keepI (l.take (k+1)) (l.drop (k+1)) (admitT (l.take k) t l[k]).1 else(⟨[],[]⟩,(k:Int),(admitT (l.take k) t l[k]).2.2):=by
 rw[List.drop_eq_getElem_cons h,keepI,← List.take_succ_eq_append_getElem h,List.length_take,Nat.min_eq_left (by omega)]
theorem keepI_all (l:List Opn) (t:Tr):keepI (l.take l.length) (l.drop l.length) t=(t,-1,0):=by
 rw[List.drop_length,keepI]
set_option maxHeartbeats 8000000 in
set_option maxRecDepth 100000 in
theorem uKeep (l:List Opn) (hwf:∀ i (h:i<l.length),WfO l[i]) (lv:Value) (w:World) (hE:Env w) (hv:SlO w lv l) (hlen:l.length≤1000000):Calls Tryz.prog 42 #[lv] w (RetKp l w (keepF l)):=by
 obtain⟨A,c,rfl,hl,hr⟩:=hv.open_
 have HA:=Lib.hid (fun k (h:k<l.length) o (he:l[k]=o) t (ht:(replayF (l.take k)).1=t) KB MB W (hK:KeepAt w KB MB (l.take k) t W) (hA:AdmL (l.take k))=>by
  have:=uAdmit (l.take k) o w W KB MB (hE.mono hK.g) (by rw[ht];exact hK) hA (fun i hi=>by rw[List.getElem_take];exact hwf _ _) (by rw[← he];exact hwf _ _) (by rw[List.length_take];omega)
  unfold RetAdm at this
  rw[ht] at this
  exact this)
 have HN:=Lib.hid hlen
 have HR:=Lib.hid hr
 have HT:=Lib.hid (fun k (h:k<l.length)=>List.take_succ_eq_append_getElem h)
 have HS:=Lib.hid (keepI_step l)
 have HF:=Lib.hid (show keepF l=keepI (l.take 0) (l.drop 0) (replayF (l.take 0)).1 from rfl)
 have HZ:=Lib.hid (keepI_all l)
 have HKN:=Lib.hid (keep_new w)
 generalize keepF l=RES at HF ⊢
 clear hE hwf hlen hr hv
 go_enter Tryz.func42,Tryz.ntmps42
 go_wp2_with fail
 rw[run_makeMap]
 go_wp2_with fail
 go_loopg [15] l.length (fun gg s15 wr=>∃ kk:Nat,kk≤l.length∧l.length-kk≤gg∧s15=.int .i64 kk∧Aside (∃ t,(replayF (l.take kk)).1=t∧AdmL (l.take kk)∧KeepAt w (w.heap.size+1) w.heap.size (l.take kk) t wr∧RES=keepI (l.take kk) (l.drop kk) t))
 case atStart=>exact⟨0,by omega,by omega,rfl,(show Aside _ from⟨_,rfl,.nil,HKN.out,HF.out⟩)⟩
 case round =>
  have hN:=HN.out
  obtain⟨kk,hkk,hgk,rfl,OW⟩:=hrel
  obtain⟨t,htt,hadm,hkp,hres⟩:=OW.out
  have HT1:=Lib.hid htt
  have HD:=Lib.hid hadm
  have HK:=Lib.hid hkp
  have HRS:=Lib.hid hres
  clear OW htt hadm hkp hres HKN HF
  by_cases hlt:kk<l.length
  case pos =>
   have hltz:(kk:Int)<(l.length:Int):=by omega
   obtain⟨b,off,rfl,hbb,hcell⟩:=HR.out.2 (by omega)
   obtain⟨c0,c1,c2,c3,c4,c5,c6,c7,c8,c9,c10,c11⟩:=hcell wr HK.out.g kk hlt
   have KA:=Lib.hid (fun o he=>HA.out kk hlt o he t HT1.out (w.heap.size+1) w.heap.size)
   have HST:=Lib.hid (HRS.out.trans (HS.out kk hlt t))
   have HNX:=Lib.hid (fun(h:(admitT (l.take kk) t l[kk]).2.2=0)=>(show AdmL (l.take (kk+1))∧(replayF (l.take (kk+1))).1=(admitT (l.take kk) t l[kk]).1 from by
    have h1:=HT1.out
    have h2:=HD.out
    subst h1
    rw[HT.out kk hlt]
    exact⟨.snoc h2 h,(adm_next h2 h).symm⟩))
   have HTT:=Lib.hid (HT.out kk hlt)
   generalize hy:l[kk]=y at c0 c1 c2 c3 c4 c5 c6 c7 c8 c9 c10 c11 HST HNX HTT
   have KB:=Lib.hid (KA.out y hy)
   clear hcell KA hy
   generalize admitT (l.take kk) t y=AR at KB HST HNX
   obtain⟨t2,ix,n0⟩:=AR
   obtain⟨y0,y1,y2,y3,y4,y5,y6,y7,y8,y9,y10,y11⟩:=y
   dsimp only at KB HST HNX c0 c1 c2 c3 c4 c5 c6 c7 c8 c9 c10 c11
   unfold Opn.agg at KB
   dsimp only at KB
   have HG0:=Lib.hid (HK.out.g)
   go_wp2_with fail
   clear c0 c1 c2 c3 c4 c5 c6 c7 c8 c9 c10 c11
   refine(KB.out _ (HK.out.grew ((Grew.refl wr).alloc _)) HD.out).mono ?_
   rintro e w2 ⟨rfl,gq,hk2⟩
   have HG2:=Lib.hid gq
   have HK2:=Lib.hid hk2
   clear gq hk2
   dsimp only
   by_cases hn:n0=0
   case neg =>
    have hbn:(n0 != 0)=true:=by simpa using hn
    have HQ:=Lib.hid (HST.out.trans (if_neg hn))
    have HF:=Lib.hid hn
    clear hn
    go_wp2
    refine bodyPost_ret (v:=.tuple #[.pointer none,.int .i64 kk,.int .i64 n0]) (by simp[results,Tryz.results42,go_sem]) rfl ?_
    rw[HQ.out]
    exact⟨_,rfl,HG2.out,fun h=>absurd h HF.out⟩
   case pos =>
    subst hn
    have hbn:((0:Int) != 0)=false:=rfl
    have HLP:=Lib.hid (show Aside (∃ t,(replayF (l.take (kk+1))).1=t∧AdmL (l.take (kk+1))∧KeepAt w (w.heap.size+1) w.heap.size (l.take (kk+1)) t w2∧RES=keepI (l.take (kk+1)) (l.drop (kk+1)) t) from⟨t2,(HNX.out rfl).2,(HNX.out rfl).1,by rw[HTT.out];exact HK2.out rfl,HST.out.trans (if_pos rfl)⟩)
    clear HST HNX HK2 HTT
    go_wp2
    go_roundg (l.length-(kk+1))
    case measure=>omega
    case rel=>exact⟨kk+1,by omega,by omega,by go_num,HLP.out⟩
  case neg =>
   have hltz:¬ (kk:Int)<(l.length:Int):=by omega
   obtain rfl:kk=l.length:=by omega
   have HQ:=Lib.hid (HRS.out.trans (HZ.out t))
   have hres:=HQ.out
   subst hres
   go_wp2
   refine bodyPost_ret (v:=.tuple #[.pointer (some ⟨w.heap.size+1,0,none⟩),.int .i64 (-1),.int .i64 0]) (by simp[results,Tryz.results42,go_sem]) rfl ?_
   have h1:=HT1.out
   have h2:=HD.out
   have h3:=HK.out
   rw[List.take_length] at h1 h2 h3
   exact⟨_,rfl,h3.g,fun _=>⟨h2,_,_,rfl,by rw[h1];exact h3⟩⟩
end Go.Proofs.YtdochkemaiokfaaGreat
/- undo: Check, Admit, Tree and Evidence, walked. The conditions: the library's own variables hold what they must; the numbers are numbers of an int. -/
namespace Go.Proofs.YtdochkemaiokfaaGreat
open Go.RowKit Go.Maps
theorem keep_ok {l:List Opn} (h:(keepF l).2.2=0):AdmL l∧keepF l=((replayF l).1,-1,0):=by
 have:=(keep_adm l [] .nil).1 h
 rwa [List.nil_append] at this
def RetCk (R:Int × Int) (w:World) (e:Ending) (w':World):Prop:=e=.returned (.tuple #[.int .i64 R.1,.int .i64 R.2])∧Grew w w'
theorem uCheck (l:List Opn) (hwf:∀ i (h:i<l.length),WfO l[i]) (lv:Value) (w:World) (hE:Env w) (hv:SlO w lv l) (hlen:l.length≤1000000):Calls Tryz.prog 14 #[lv] w (RetCk (keepF l).2 w):=by
 have K:=uKeep l hwf lv w hE hv hlen
 obtain⟨A,c,rfl,-⟩:=hv.open_
 generalize keepF l=R at K ⊢
 clear hwf hE hv hlen
 go_enter Tryz.func14,Tryz.ntmps14
 go_wp2_with fail
 refine K.mono ?_
 rintro e w2 ⟨p,rfl,g,-⟩
 dsimp only
 go_wp2
 go_ret2
 exact⟨rfl,g⟩
noncomputable def evidR (l:List Opn):List Cm × Int:=if (keepF l).2.2=0 then(evidF l,0) else([],1)
def RetEvR (R:List Cm × Int) (w:World) (e:Ending) (w':World):Prop:=∃ v,e=.returned (.tuple #[v,.int .i64 R.2])∧SlC w' v R.1∧Grew w w'
theorem uEvidenceX (l:List Opn) (hwf:∀ i (h:i<l.length),WfO l[i]) (lv:Value) (w:World) (hE:Env w) (hv:SlO w lv l) (hlen:l.length≤1000000):Calls Tryz.prog 28 #[lv] w (RetEvR (evidR l) w):=by
 have K:=uCheck l hwf lv w hE hv hlen
 have KE:=Lib.hid (fun W (g:Grew w W) (h:(keepF l).2.2=0)=>uEvidence l lv W (hv.mono g) hlen (evid_asc (keep_ok h).1))
 obtain⟨A,c,rfl,-⟩:=hv.open_
 unfold RetCk at K
 unfold RetEv at KE
 have HR0:evidR l=if (keepF l).2.2=0 then(evidF l,0) else([],1):=rfl
 generalize evidR l=RES at HR0 ⊢
 generalize evidF l=EV at KE HR0
 generalize (keepF l).2=R at K KE HR0
 obtain⟨i,n0⟩:=R
 dsimp only at K KE HR0
 have HQ0:=Lib.hid HR0
 clear HR0 hwf hE hv hlen
 go_enter Tryz.func28,Tryz.ntmps28
 go_wp2_with fail
 refine K.mono ?_
 rintro e w2 ⟨rfl,g⟩
 dsimp only
 by_cases hn:n0=0
 case neg =>
  have hbn:(n0 != 0)=true:=by simpa using hn
  obtain rfl:=HQ0.out.trans (if_neg hn)
  clear HQ0 hn
  go_wp2
  go_ret2
  exact⟨_,rfl,SlC.nil _,g⟩
 case pos =>
  subst hn
  have hbn:((0:Int) != 0)=false:=rfl
  obtain rfl:=HQ0.out.trans (if_pos rfl)
  clear HQ0
  go_wp2_with fail
  refine(KE.out _ g (by trivial)).mono ?_
  rintro e w3 ⟨B,d,rfl,ho,g2⟩
  dsimp only
  have HO:=Lib.hid (Rd.of_own ho)
  clear ho
  go_wp2
  go_ret2
  exact⟨_,rfl,HO.out,g.trans g2⟩
noncomputable def treeR (l:List Opn):Tr × Int:=if (keepF l).2.2=0 then((replayF l).1,0) else(⟨[],[]⟩,1)
set_option maxRecDepth 100000 in
theorem uTree (l:List Opn) (hwf:∀ i (h:i<l.length),WfO l[i]) (lv:Value) (w:World) (hE:Env w) (hv:SlO w lv l) (hlen:l.length≤1000000):Calls Tryz.prog 22 #[lv] w (RetTr (treeR l) w):=by
 have K:=uKeep l hwf lv (w.alloc (.cells #[.slice none 0 0,.slice none 0 0] 43)) (hE.mono ((Grew.refl w).alloc _)) (hv.mono ((Grew.refl w).alloc _)) hlen
 obtain⟨A,c,rfl,-⟩:=hv.open_
 have HB:=Lib.hid (heapNew w (.cells #[.slice none 0 0,.slice none 0 0] 43))
 unfold RetKp at K
 have HR0:treeR l=if (keepF l).2.2=0 then((replayF l).1,0) else(⟨[],[]⟩,1):=rfl
 generalize treeR l=RES at HR0 ⊢
 generalize keepF l=R at K HR0
 obtain⟨t0,i,n0⟩:=R
 dsimp only at K HR0
 have HQ0:=Lib.hid HR0
 clear HR0 hwf hE hv hlen
 go_enter Tryz.func22,Tryz.ntmps22
 go_wp2_with fail
 refine K.mono ?_
 rintro e w2 ⟨p,rfl,g,hk⟩
 have HB2:=Lib.hid (heapKeep g HB.out)
 have HG:=Lib.hid (show Grew w w2 from Grew.trans ((Grew.refl w).alloc _) g)
 dsimp only
 by_cases hn:n0=0
 case neg =>
  have hbn:(n0 != 0)=true:=by simpa using hn
  obtain rfl:=HQ0.out.trans (if_neg hn)
  clear HQ0 hn hk g
  have c0:w2.cell? ⟨w.heap.size,0,none⟩=some (.slice none 0 0):=cellOf HB2.out rfl
  have c1:w2.cell? ⟨w.heap.size,1,none⟩=some (.slice none 0 0):=cellOf HB2.out rfl
  have z0:w2.frozen? ⟨w.heap.size,0,none⟩=false:=freeOf HB2.out
  have z1:w2.frozen? ⟨w.heap.size,1,none⟩=false:=freeOf HB2.out
  go_wp2
  obtain⟨q0,q1⟩:=res_cells (v0:=(.slice none 0 0)) (v1:=(.slice none 0 0)) c0 c1
  refine bodyPost_ret (v:=.tuple #[.agg #[.slice none 0 0,.slice none 0 0],.int .i64 1]) (by simp[results,Tryz.results22,go_sem,q0,q1]) rfl ?_
  exact RetTr.none ((HG.out.setCell (Nat.le_refl _) _).setCell (Nat.le_refl _) _)
 case pos =>
  subst hn
  have hbn:((0:Int) != 0)=false:=rfl
  obtain rfl:=HQ0.out.trans (if_pos rfl)
  clear HQ0
  obtain⟨hA,KB,MB,rfl,hK⟩:=hk rfl
  clear hk hA
  obtain⟨E,k,A2,n,c2,B,m,d,C,q,hO,hV⟩:=hK.open_
  have HV:=Lib.hid hV.t
  have hne:KB≠w.heap.size:=by have:=hO.kb;simp at this;omega
  obtain⟨xk0,xk1,xk2,-⟩:=hO.facts
  clear hO hV hK g
  have c0:w2.cell? ⟨w.heap.size,0,none⟩=some (.slice none 0 0):=cellOf HB2.out rfl
  have c1:w2.cell? ⟨w.heap.size,1,none⟩=some (.slice none 0 0):=cellOf HB2.out rfl
  have z0:w2.frozen? ⟨w.heap.size,0,none⟩=false:=freeOf HB2.out
  have z1:w2.frozen? ⟨w.heap.size,1,none⟩=false:=freeOf HB2.out
  go_wp2
  obtain⟨q0,q1⟩:=res_cells (v0:=(.slice A2 n c2)) (v1:=(.slice B m d)) c0 c1
  refine bodyPost_ret (v:=.tuple #[.agg #[.slice A2 n c2,.slice B m d],.int .i64 0]) (by simp[results,Tryz.results22,go_sem,q0,q1]) rfl ?_
  exact⟨_,_,rfl,HV.out.setT HB2.out,(HG.out.setCell (Nat.le_refl _) _).setCell (Nat.le_refl _) _⟩
end Go.Proofs.YtdochkemaiokfaaGreat
/- undo: Admit, walked. The conditions: the library's own variables hold what they must; the numbers are numbers of an int. -/
namespace Go.Proofs.YtdochkemaiokfaaGreat
open Go.RowKit Go.Maps
noncomputable def admR (l:List Opn) (o:Opn):List Opn × Int × Int:=if (keepF l).2.2=0 then(if (admitT l (replayF l).1 o).2.2=0 then(l++[o],-1,0) else([],(admitT l (replayF l).1 o).2.1,(admitT l (replayF l).1 o).2.2)) else([],-1,1)
def RetAd (R:List Opn × Int × Int) (w:World) (e:Ending) (w':World):Prop:=∃ v,e=.returned (.tuple #[v,.int .i64 R.2.1,.int .i64 R.2.2])∧SlO w' v R.1∧Grew w w'
set_option maxHeartbeats 8000000 in
set_option maxRecDepth 100000 in
theorem uAdmitX (l:List Opn) (o:Opn) (hwf:∀ i (h:i<l.length),WfO l[i]) (hwo:WfO o) (lv:Value) (w:World) (hE:Env w) (hv:SlO w lv l) (hlen:l.length<1000000):Calls Tryz.prog 17 #[lv,o.agg] w (RetAd (admR l o) w):=by
 have K:=Lib.hid (fun W (g:Grew w W)=>uKeep l hwf lv W (hE.mono g) (hv.mono g) (by omega))
 have HA:=Lib.hid (fun w0 W KB MB (g:Grew w W) (h:AdmL l) (hK:KeepAt w0 KB MB l (replayF l).1 W)=>uAdmit l o w0 W KB MB (hE.mono g) hK h hwf hwo hlen)
 obtain⟨A,c,rfl,-⟩:=hv.open_
 have HR0:admR l o=if (keepF l).2.2=0 then(if (admitT l (replayF l).1 o).2.2=0 then(l++[o],-1,0) else([],(admitT l (replayF l).1 o).2.1,(admitT l (replayF l).1 o).2.2)) else([],-1,1):=rfl
 unfold RetAdm at HA
 unfold RetKp at K
 generalize admR l o=RES at HR0 ⊢
 generalize admitT l (replayF l).1 o=AR at HA HR0
 generalize keepF l=R at K HR0
 obtain⟨t0,i,n0⟩:=R
 obtain⟨t2,ix,n2⟩:=AR
 dsimp only at K HA HR0
 obtain⟨o0,o1,o2,o3,o4,o5,o6,o7,o8,o9,o10,o11⟩:=o
 unfold Opn.agg at HA ⊢
 dsimp only at HA ⊢
 have HQ0:=Lib.hid HR0
 have HB:=Lib.hid (heapNew w (.cells #[.int .i64 o0,.int .i64 o1,.int .i64 o2,.int .i64 o3,.int .i64 o4,.int .i64 o5,.int .i64 o6,.string o7,.string o8,.int .i64 o9,.int .i64 o10,.int .i64 o11] 26))
 clear HR0 hwf hwo hE hv hlen
 go_enter Tryz.func17,Tryz.ntmps17
 go_wp2_with fail
 refine(K.out _ ((Grew.refl w).alloc _)).mono ?_
 rintro e w2 ⟨p,rfl,g,hk⟩
 have HB2:=Lib.hid (heapKeep g HB.out)
 have HG:=Lib.hid (show Grew w w2 from Grew.trans ((Grew.refl w).alloc _) g)
 dsimp only
 by_cases hn:n0=0
 case neg =>
  have hbn:(n0 != 0)=true:=by simpa using hn
  obtain rfl:=HQ0.out.trans (if_neg hn)
  clear HQ0 hn hk g
  go_wp2
  refine bodyPost_ret (v:=.tuple #[.slice none 0 0,.int .i64 (-1),.int .i64 1]) (by simp[results,Tryz.results17,go_sem]) rfl ?_
  exact⟨_,rfl,SlO.nil _,HG.out⟩
 case pos =>
  subst hn
  have hbn:((0:Int) != 0)=false:=rfl
  have HQ1:=Lib.hid (HQ0.out.trans (if_pos rfl))
  obtain⟨hA,KB,MB,rfl,hK⟩:=hk rfl
  have HK:=Lib.hid hK
  have HL:=Lib.hid hA
  clear hk hA HQ0 g hK
  have b0:w2.cell? ⟨w.heap.size,0,none⟩=some (.int .i64 o0):=cellOf HB2.out rfl
  have b1:w2.cell? ⟨w.heap.size,1,none⟩=some (.int .i64 o1):=cellOf HB2.out rfl
  have b2:w2.cell? ⟨w.heap.size,2,none⟩=some (.int .i64 o2):=cellOf HB2.out rfl
  have b3:w2.cell? ⟨w.heap.size,3,none⟩=some (.int .i64 o3):=cellOf HB2.out rfl
  have b4:w2.cell? ⟨w.heap.size,4,none⟩=some (.int .i64 o4):=cellOf HB2.out rfl
  have b5:w2.cell? ⟨w.heap.size,5,none⟩=some (.int .i64 o5):=cellOf HB2.out rfl
  have b6:w2.cell? ⟨w.heap.size,6,none⟩=some (.int .i64 o6):=cellOf HB2.out rfl
  have b7:w2.cell? ⟨w.heap.size,7,none⟩=some (.string o7):=cellOf HB2.out rfl
  have b8:w2.cell? ⟨w.heap.size,8,none⟩=some (.string o8):=cellOf HB2.out rfl
  have b9:w2.cell? ⟨w.heap.size,9,none⟩=some (.int .i64 o9):=cellOf HB2.out rfl
  have b10:w2.cell? ⟨w.heap.size,10,none⟩=some (.int .i64 o10):=cellOf HB2.out rfl
  have b11:w2.cell? ⟨w.heap.size,11,none⟩=some (.int .i64 o11):=cellOf HB2.out rfl
  go_wp2_with fail
  clear b0 b1 b2 b3 b4 b5 b6 b7 b8 b9 b10 b11
  refine(HA.out _ _ KB MB HG.out HL.out HK.out).mono ?_
  rintro e w3 ⟨rfl,g3,hk3⟩
  have HG3:=Lib.hid (show Grew w w3 from Grew.trans ((Grew.refl w).alloc _) g3)
  have HK3:=Lib.hid hk3
  clear hk3 g3
  dsimp only
  by_cases hn2:n2=0
  case neg =>
   have hbn2:(n2 != 0)=true:=by simpa using hn2
   obtain rfl:=HQ1.out.trans (if_neg hn2)
   clear HQ1 hn2
   go_wp2
   refine bodyPost_ret (v:=.tuple #[.slice none 0 0,.int .i64 ix,.int .i64 n2]) (by simp[results,Tryz.results17,go_sem]) rfl ?_
   exact⟨_,rfl,SlO.nil _,HG3.out⟩
  case pos =>
   subst hn2
   obtain rfl:=HQ1.out.trans (if_pos rfl)
   clear HQ1
   obtain⟨E,k,A2,n,c2,B,m,d,C,q,hO,hV⟩:=(HK3.out (by trivial)).open_
   obtain⟨xk0,-⟩:=hO.facts
   have HV:=Lib.hid hV.l
   clear hO hV
   go_wp2
   refine bodyPost_ret (v:=.tuple #[.slice E (l++[(⟨o0,o1,o2,o3,o4,o5,o6,o7,o8,o9,o10,o11⟩:Opn)]).length k,.int .i64 (-1),.int .i64 0]) (by simp[results,Tryz.results17,go_sem]) rfl ?_
   exact⟨_,rfl,HV.out,HG3.out⟩
end Go.Proofs.YtdochkemaiokfaaGreat