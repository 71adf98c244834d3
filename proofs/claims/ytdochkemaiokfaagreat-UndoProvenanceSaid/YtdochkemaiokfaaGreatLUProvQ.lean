/- UndoProvenance, walked; awake is given as hA. The condition: the operation's numbers are numbers of an int. -/
import Derived.BigQuiet
import Derived.Deep.CutRange
import Derived.Deep.RegionHeld3
import Derived.Test.YtdochkemaiokfaaGreatQ38
import Derived.Test.YtdochkemaiokfaaGreatSamQ
import Derived.Test.YtdochkemaiokfaaGreatT7Q
import Derived.Test.YtdochkemaiokfaaGreatQ30
namespace Go.Proofs.YtdochkemaiokfaaGreat
open Go.RowKit
theorem neqGself (w:World) (x0 x1 x2:Int):(binOp .neq 24 (.agg #[.int .i64 x0,.int .i64 x1,.int .i64 x2]) (.agg #[.int .i64 x0,.int .i64 x1,.int .i64 x2])).run Tryz.prog w=.ok (.bool false) w:=by
 have hS:Tryz.prog.underlying 24=some (.struct (Tryz.prog.fieldsOf 24)):=by kernel_rfl
 have hp:Tryz.prog.stoodInHeld 24=false:=by kernel_rfl
 rw[run_neq_struct,show(10000:Nat)=9999+1 from rfl,run_equalIn_agg w 9999 24 _ _ hS hp]
 simp only [Program.fieldsOf,Tryz.underlying24]
 go_simp
structure ProvLaw (l:List Opn) (o:Opn):Prop where
 log:(admR l o).1=l++[o]
 ev:evidR l=(evidF l,0)
 ev2:evidR (l++[o])=(evidF (l++[o]),0)
 tree:treeR (l++[o])=((replayF (l++[o])).1,0)
 same:o.kind≠1→evidF (l++[o])=evidF l
 one:o.kind=1→(evidF (l++[o])).length=(evidF l).length+1
 of:∀ c∈evidF l,ofC (evidF (l++[o])) c.unit=some c
 find:∀ c∈evidF (l++[o]),c.acc≠0→(brFind (replayF (l++[o])).1.brs c.unit).isSome=true
theorem prov_law {l:List Opn} {o:Opn} (h:(admR l o).2.2=0):ProvLaw l o:=by
 obtain⟨hA,h1,h2,h3⟩:=adm_of h
 have he:=evid_snoc l o
 have hev:∀ {m:List Opn},AdmL m→evidR m=(evidF m,0):=fun hm=>by
  unfold evidR
  rw[keep_of hm,if_pos rfl]
 refine⟨by rw[h2],hev hA,hev h3,tree_of h3,fun hk=>by rw[he,if_neg hk],fun hk=>by rw[he,if_pos hk,len_insCm],fun c hc=>ofC_in (evid_asc h3) ?_,fun c hc ha=>?_⟩
 ·rw[he]
  by_cases hk:o.kind=1
  ·rw[if_pos hk]
   exact(mem_insCm _ _ _).2 (.inr hc)
  ·rw[if_neg hk]
   exact hc
 ·obtain⟨b,hb,e⟩:=came_there h3 c hc ha
  cases hf:brFind (replayF (l++[o])).1.brs c.unit with
  | none=>exact absurd e ((find_none _).1 hf b hb)
  | some x=>rfl
theorem ev_len (l:List Opn):(evidF l).length≤l.length:=by
 have:∀(n:Nat) (l:List Opn),l.length=n→(evidF l).length≤l.length:=by
  intro n
  induction n with
  | zero=>intro l h;obtain rfl:=List.eq_nil_of_length_eq_zero h;exact Nat.le_refl _
  | succ n ih =>
   intro l h
   obtain⟨m,x,rfl⟩:∃ m x,l=m++[x]:=⟨l.dropLast,l.getLast (by intro e;rw[e] at h;cases h),(List.dropLast_concat_getLast _).symm⟩
   rw[List.length_append,List.length_singleton] at h ⊢
   have:=ih m (by omega)
   rw[evid_snoc]
   split
   ·rw[len_insCm];omega
   ·omega
 exact this _ l rfl
def RetEv0 (B:List Cm) (w:World) (e:Ending) (w':World):Prop:=∃ A c,e=.returned (.tuple #[.slice A B.length c,.int .i64 0])∧SlC w' (.slice A B.length c) B∧Grew w w'
theorem ev0_of {B:List Cm} {w w':World} {e:Ending} (h:RetEvR (B,0) w e w'):RetEv0 B w e w':=by
 obtain⟨v,rfl,hv,hg⟩:=h
 obtain⟨A,c,rfl,-⟩:=hv.open_
 exact⟨A,c,rfl,hv,hg⟩
def RetTr0 (t:Tr) (w:World) (e:Ending) (w':World):Prop:=∃ R r n A c,e=.returned (.tuple #[.agg #[.slice R n r,.slice A t.brs.length c],.int .i64 0])∧SlBr w' (.slice A t.brs.length c) t.brs∧Grew w w'
theorem tr0_of {t:Tr} {w w':World} {e:Ending} (h:RetTr (t,0) w e w'):RetTr0 t w e w':=by
 obtain⟨rv,bv,rfl,ht,hg⟩:=h
 obtain⟨A,c,hb,-⟩:=SlBr.open_ (v:=bv) (tr_br ht)
 subst hb
 obtain⟨R,r,hR,-⟩:=SlI.open_ (v:=rv) (tr_i ht)
 subst hR
 exact⟨R,r,_,A,c,rfl,tr_br ht,hg⟩
set_option maxHeartbeats 8000000 in
set_option maxRecDepth 100000 in
theorem prov_of (l:List Opn) (o:Opn) (hwf:∀ i (h:i<l.length),WfO l[i]) (hwo:WfO o) (lv:Value) (w:World) (hE:Env w) (hv:SlO w lv l) (hA:∀ W,Grew w W→Calls Tryz.prog 11 #[] W fun e W'=>e=.returned (.bool true)∧Grew W W'):Calls Tryz.prog 10 #[lv,o.agg] w fun e w'=>e=.returned (.bool true)∧Grew w w':=by
 have KA:=Lib.hid hA
 have KW:=Lib.hid (fun W (g:Grew w W)=>few22 l lv W (hv.mono g))
 have KF:=Lib.hid (fun W=>few21_any o W)
 have KCL:=Lib.hid (fun W (g:Grew w W) (h:l.length≤24)=>cloneO l lv W (hv.mono g) (by omega))
 have KEV:=Lib.hid (fun(h:l.length≤24) v W (g:Grew w W) (hs:SlO W v l)=>uEvidenceX l hwf v W (hE.mono g) hs (by omega))
 have KAD:=Lib.hid (fun(h:l.length≤24) v W (g:Grew w W) (h2:SlO W v l)=>uAdmitX l o hwf hwo v W (hE.mono g) h2 (by omega))
 have HLAW:=Lib.hid (prov_law (l:=l) (o:=o))
 have hwm:∀ i (h:i<(l++[o]).length),WfO (l++[o])[i]:=fun i h=>by
  rcases List.mem_append.1 (List.getElem_mem h) with hx|hx
  ·obtain⟨j,hj,e⟩:=List.mem_iff_getElem.1 hx
   rw[← e]
   exact hwf j hj
  ·rw[List.mem_singleton.1 hx]
   exact hwo
 have KCL2:=Lib.hid (fun(h:l.length≤24) v W (hs:SlO W v (l++[o]))=>cloneO (l++[o]) v W hs (by rw[List.length_append,List.length_singleton];omega))
 have KE2:=Lib.hid (fun(h:l.length≤24) (h0:(admR l o).2.2=0) v W (g:Grew w W) (hs:SlO W v (l++[o]))=>by
  have:=uEvidenceX (l++[o]) hwm v W (hE.mono g) hs (by rw[List.length_append,List.length_singleton];omega)
  rw[(prov_law h0).ev2] at this
  exact this.mono fun _ _ h=>ev0_of h)
 have KT2:=Lib.hid (fun(h:l.length≤24) (h0:(admR l o).2.2=0) v W (g:Grew w W) (hs:SlO W v (l++[o]))=>by
  have:=uTree (l++[o]) hwm v W (hE.mono g) hs (by rw[List.length_append,List.length_singleton];omega)
  rw[(prov_law h0).tree] at this
  exact this.mono fun _ _ h=>tr0_of h)
 have HEN:=Lib.hid (fun(h:l.length≤24)=>(show(evidF (l++[o])).length≤25∧(evidF l).length≤24 from by
  have h1:=ev_len (l++[o])
  have h2:=ev_len l
  rw[List.length_append,List.length_singleton] at h1
  omega))
 obtain⟨A,c,rfl,hlc,hcap,hr⟩:=hv.open_
 unfold maxLen at hcap
 clear hA hwf hwo hE hv hr hwm
 unfold RetEvR at KEV
 unfold RetEv0 at KE2
 unfold RetTr0 at KT2
 generalize hE0:evidR l=E0 at KEV
 generalize hAR:admR l o=AR at KAD KE2 KT2 HLAW
 have HE0:=Lib.hid hE0
 have HAR:=Lib.hid hAR
 have HLO:=Lib.hid (fun(h:AR.2.2=0)=>(show AR.1=l++[o] from by
  have h1:=HAR.out
  have h2:=HLAW.out h
  rw[← h1]
  exact h2.log))
 clear hE0 hAR
 unfold RetAd at KAD
 generalize hm:l++[o]=M at *
 have HMM:=Lib.hid hm
 clear hm
 obtain⟨o0,o1,o2,o3,o4,o5,o6,o7,o8,o9,o10,o11⟩:=o
 unfold Opn.agg at KAD KF ⊢
 dsimp only at KAD KF ⊢
 have HX0:=Lib.hid (heapNew w (.cells #[.int .i64 o0,.int .i64 o1,.int .i64 o2,.int .i64 o3,.int .i64 o4,.int .i64 o5,.int .i64 o6,.string o7,.string o8,.int .i64 o9,.int .i64 o10,.int .i64 o11] 26))
 have HGU:=Lib.hid ((Grew.refl w).alloc (.cells #[.int .i64 o0,.int .i64 o1,.int .i64 o2,.int .i64 o3,.int .i64 o4,.int .i64 o5,.int .i64 o6,.string o7,.string o8,.int .i64 o9,.int .i64 o10,.int .i64 o11] 26))
 go_enter Tryz.func10,Tryz.ntmps10
 go_wp2_with fail
 generalize w.alloc (.cells #[.int .i64 o0,.int .i64 o1,.int .i64 o2,.int .i64 o3,.int .i64 o4,.int .i64 o5,.int .i64 o6,.string o7,.string o8,.int .i64 o9,.int .i64 o10,.int .i64 o11] 26)=w1 at *
 generalize w.heap.size=XB at *
 refine(KA.out _ HGU.out).mono ?_
 rintro e wa ⟨rfl,ga⟩
 have HG:=Lib.hid (HGU.out.trans ga)
 have HX1:=Lib.hid (heapKeep ga HX0.out)
 clear ga HX0 HGU
 dsimp only
 go_wp2_with fail
 refine(KW.out _ HG.out).mono ?_
 rintro e wb ⟨q,rfl,hq,gb⟩
 have HQ:=Lib.hid hq
 have HG2:=Lib.hid (HG.out.trans gb)
 have HX2:=Lib.hid (heapKeep gb HX1.out)
 clear hq gb HG HX1
 dsimp only
 cases q
 case false =>
  clear HQ
  go_wp2_with fail
  refine(KA.out _ HG2.out).mono ?_
  rintro e wz ⟨rfl,g3⟩
  have HG3:=Lib.hid (HG2.out.trans g3)
  clear g3
  dsimp only
  go_wp2
  go_ret
  exact⟨rfl,HG3.out⟩
 case true =>
  have HF:=Lib.hid (HQ.out (by first|rfl|trivial))
  have hf24:=Lib.hid HF.out.2
  clear HQ
  have x0:wb.cell? ⟨XB,0,none⟩=some (.int .i64 o0):=cellOf HX2.out rfl
  have x1:wb.cell? ⟨XB,1,none⟩=some (.int .i64 o1):=cellOf HX2.out rfl
  have x2:wb.cell? ⟨XB,2,none⟩=some (.int .i64 o2):=cellOf HX2.out rfl
  have x3:wb.cell? ⟨XB,3,none⟩=some (.int .i64 o3):=cellOf HX2.out rfl
  have x4:wb.cell? ⟨XB,4,none⟩=some (.int .i64 o4):=cellOf HX2.out rfl
  have x5:wb.cell? ⟨XB,5,none⟩=some (.int .i64 o5):=cellOf HX2.out rfl
  have x6:wb.cell? ⟨XB,6,none⟩=some (.int .i64 o6):=cellOf HX2.out rfl
  have x7:wb.cell? ⟨XB,7,none⟩=some (.string o7):=cellOf HX2.out rfl
  have x8:wb.cell? ⟨XB,8,none⟩=some (.string o8):=cellOf HX2.out rfl
  have x9:wb.cell? ⟨XB,9,none⟩=some (.int .i64 o9):=cellOf HX2.out rfl
  have x10:wb.cell? ⟨XB,10,none⟩=some (.int .i64 o10):=cellOf HX2.out rfl
  have x11:wb.cell? ⟨XB,11,none⟩=some (.int .i64 o11):=cellOf HX2.out rfl
  go_wp2_with fail
  clear x0 x1 x2 x3 x4 x5 x6 x7 x8 x9 x10 x11
  refine(KF.out _).mono ?_
  rintro e wc ⟨q2,rfl,-,gc⟩
  have HG3:=Lib.hid (HG2.out.trans gc)
  have HX3:=Lib.hid (heapKeep gc HX2.out)
  clear gc HX2 HG2
  dsimp only
  cases q2
  case false =>
   go_wp2_with fail
   refine(KA.out _ HG3.out).mono ?_
   rintro e wz ⟨rfl,g3⟩
   have HG4:=Lib.hid (HG3.out.trans g3)
   clear g3
   dsimp only
   go_wp2
   go_ret
   exact⟨rfl,HG4.out⟩
  case true =>
   go_wp2_with fail
   refine(KCL.out _ HG3.out hf24.out).mono ?_
   rintro e wd ⟨v1,rfl,ho,gc⟩
   have HG4:=Lib.hid (HG3.out.trans gc)
   have HS4:=Lib.hid (show SlO wd v1 l from Rd.of_own ho)
   have HX4:=Lib.hid (heapKeep gc HX3.out)
   obtain⟨A1,c1,rfl⟩:=own_slice ho
   clear ho gc HX3
   dsimp only
   go_wp2_with fail
   refine(KEV.out hf24.out _ _ HG4.out HS4.out).mono ?_
   rintro e we ⟨av,rfl,hav,gd⟩
   have HG5:=Lib.hid (HG4.out.trans gd)
   have HX5:=Lib.hid (heapKeep gd HX4.out)
   have HAV:=Lib.hid hav
   obtain⟨AA,ac,hAA,-⟩:=hav.open_
   subst hAA
   clear gd HS4 HX4 hav HG3 HG4
   dsimp only
   have KCL1:=Lib.hid (fun W g=>KCL.out W g hf24.out)
   have KAD1:=Lib.hid (KAD.out hf24.out)
   go_wp2_with fail
   have x0:we.cell? ⟨XB,0,none⟩=some (.int .i64 o0):=cellOf HX5.out rfl
   have x1:we.cell? ⟨XB,1,none⟩=some (.int .i64 o1):=cellOf HX5.out rfl
   have x2:we.cell? ⟨XB,2,none⟩=some (.int .i64 o2):=cellOf HX5.out rfl
   have x3:we.cell? ⟨XB,3,none⟩=some (.int .i64 o3):=cellOf HX5.out rfl
   have x4:we.cell? ⟨XB,4,none⟩=some (.int .i64 o4):=cellOf HX5.out rfl
   have x5:we.cell? ⟨XB,5,none⟩=some (.int .i64 o5):=cellOf HX5.out rfl
   have x6:we.cell? ⟨XB,6,none⟩=some (.int .i64 o6):=cellOf HX5.out rfl
   have x7:we.cell? ⟨XB,7,none⟩=some (.string o7):=cellOf HX5.out rfl
   have x8:we.cell? ⟨XB,8,none⟩=some (.string o8):=cellOf HX5.out rfl
   have x9:we.cell? ⟨XB,9,none⟩=some (.int .i64 o9):=cellOf HX5.out rfl
   have x10:we.cell? ⟨XB,10,none⟩=some (.int .i64 o10):=cellOf HX5.out rfl
   have x11:we.cell? ⟨XB,11,none⟩=some (.int .i64 o11):=cellOf HX5.out rfl
   go_cut [7,8,9] from 42 to 48 (fun s4 s5 s6 wx=>AdCut we AR s4 s5 s6 wx)
   case first =>
    have HSS:=Lib.hid (fun W (g:Grew we W)=>(⟨keep_cell g x0,keep_cell g x1,keep_cell g x2,keep_cell g x3,keep_cell g x4,keep_cell g x5,keep_cell g x6,keep_cell g x7,keep_cell g x8,keep_cell g x9,keep_cell g x10,keep_cell g x11,g⟩:W.cell? ⟨XB,0,none⟩=some (.int .i64 o0)∧W.cell? ⟨XB,1,none⟩=some (.int .i64 o1)∧W.cell? ⟨XB,2,none⟩=some (.int .i64 o2)∧W.cell? ⟨XB,3,none⟩=some (.int .i64 o3)∧W.cell? ⟨XB,4,none⟩=some (.int .i64 o4)∧W.cell? ⟨XB,5,none⟩=some (.int .i64 o5)∧W.cell? ⟨XB,6,none⟩=some (.int .i64 o6)∧W.cell? ⟨XB,7,none⟩=some (.string o7)∧W.cell? ⟨XB,8,none⟩=some (.string o8)∧W.cell? ⟨XB,9,none⟩=some (.int .i64 o9)∧W.cell? ⟨XB,10,none⟩=some (.int .i64 o10)∧W.cell? ⟨XB,11,none⟩=some (.int .i64 o11)∧Grew we W))
    go_region_held3 (fun W=>W.cell? ⟨XB,0,none⟩=some (.int .i64 o0)∧W.cell? ⟨XB,1,none⟩=some (.int .i64 o1)∧W.cell? ⟨XB,2,none⟩=some (.int .i64 o2)∧W.cell? ⟨XB,3,none⟩=some (.int .i64 o3)∧W.cell? ⟨XB,4,none⟩=some (.int .i64 o4)∧W.cell? ⟨XB,5,none⟩=some (.int .i64 o5)∧W.cell? ⟨XB,6,none⟩=some (.int .i64 o6)∧W.cell? ⟨XB,7,none⟩=some (.string o7)∧W.cell? ⟨XB,8,none⟩=some (.string o8)∧W.cell? ⟨XB,9,none⟩=some (.int .i64 o9)∧W.cell? ⟨XB,10,none⟩=some (.int .i64 o10)∧W.cell? ⟨XB,11,none⟩=some (.int .i64 o11)∧Grew we W) (refine HSS.out _ (by repeat (with_reducible first|exact Grew.refl _|exact GQ3.out|exact GQ1.out|refine Grew.drew ?_|refine Grew.alloc ?_ _))) (first|(go_at_call 15;(with_reducible refine(KCL1.out _ (HG5.out.trans (by repeat (with_reducible first|exact Grew.refl _|exact GQ3.out|exact GQ1.out|refine Grew.drew ?_|refine Grew.alloc ?_ _)))).mono ?_);rintro e w5 ⟨v5,rfl,h5,gq⟩;obtain⟨A5,c5,rfl⟩:=own_slice h5;have GQ1:=Lib.hid (show Grew we w5 from Grew.trans (by repeat (with_reducible first|exact Grew.refl _|refine Grew.drew ?_|refine Grew.alloc ?_ _)) gq);have HLS:=Lib.hid (show SlO w5 _ l from Rd.of_own h5);clear h5 gq)|(go_at_call 17;(with_reducible refine(KAD1.out _ _ (HG5.out.trans (GQ1.out.trans (by repeat (with_reducible first|exact Grew.refl _|refine Grew.drew ?_|refine Grew.alloc ?_ _)))) (HLS.out.mono (by repeat (with_reducible first|exact Grew.refl _|refine Grew.drew ?_|refine Grew.alloc ?_ _)))).mono ?_);rintro e w7 ⟨v7,rfl,h7,gq⟩;have GQ3:=Lib.hid (GQ1.out.trans (Grew.trans (by repeat (with_reducible first|exact Grew.refl _|refine Grew.drew ?_|refine Grew.alloc ?_ _)) gq));obtain⟨A7,c7,hA7,-⟩:=h7.open_;subst hA7;have HO7:=Lib.hid h7;clear h7 gq))
    all_goals go_wp2_with fail
    all_goals go_meet
    all_goals exact ad_meet HO7.out GQ3.out
   case rest =>
    obtain⟨A4,c4',rfl,rfl,rfl,HL4,GC⟩:=hcut
    have HG6:=Lib.hid (HG5.out.trans GC.out)
    have HX6:=Lib.hid (heapKeep GC.out HX5.out)
    have HAV6:=Lib.hid (HAV.out.mono GC.out)
    have HSL:=Lib.hid HL4.out
    clear x0 x1 x2 x3 x4 x5 x6 x7 x8 x9 x10 x11 GC HL4 KCL1 KAD1 KAD KCL HG5 HX5 HAV
    obtain⟨m2,i2,e2⟩:=AR
    obtain⟨EV,ee⟩:=E0
    dsimp only at HSL HAV6 HLO HLAW KE2 KT2 ⊢
    by_cases hee:ee=0
    case neg =>
     have hbn:(ee != 0)=true:=by simpa using hee
     clear hee
     go_wp2
     go_ret
     exact⟨rfl,HG6.out⟩
    case pos =>
     subst hee
     have hb0:((0:Int) != 0)=false:=rfl
     by_cases hn:e2=0
     case neg =>
      have hbn:(e2 != 0)=true:=by simpa using hn
      clear hn
      go_wp2
      go_ret
      exact⟨rfl,HG6.out⟩
     case pos =>
      subst hn
      have hm2:m2=M:=HLO.out rfl
      subst hm2
      have hL:=HLAW.out rfl
      have hev:EV=evidF l:=by
       have h1:=HE0.out
       have h2:=hL.ev
       rw[h1] at h2
       exact(Prod.mk.inj h2).1
      subst hev
      have HEN1:=Lib.hid (HEN.out hf24.out)
      have HSAME:=Lib.hid hL.same
      have HONE:=Lib.hid hL.one
      have HOF:=Lib.hid hL.of
      have HFIND:=Lib.hid hL.find
      have KE3:=Lib.hid (KE2.out hf24.out rfl)
      have KT3:=Lib.hid (KT2.out hf24.out rfl)
      have hmm:=HMM.out
      rw[hmm] at HSAME HONE HOF HFIND
      clear hL hmm HLAW KE2 KT2 HE0 HAR HLO HMM HEN KEV
      dsimp only at HSAME HONE
      generalize evidF l=AL at *
      generalize evidF m2=BL at *
      generalize (replayF m2).1=TT at *
      go_wp2_with fail
      refine(KCL2.out hf24.out _ _ HSL.out).mono ?_
      rintro e wf ⟨v1,rfl,ho,gc⟩
      have HG7:=Lib.hid (HG6.out.trans gc)
      have HS7:=Lib.hid (show SlO wf v1 m2 from Rd.of_own ho)
      have HX7:=Lib.hid (heapKeep gc HX6.out)
      have HAV7:=Lib.hid (HAV6.out.mono gc)
      have HSL7:=Lib.hid (HSL.out.mono gc)
      obtain⟨A1,c1,rfl⟩:=own_slice ho
      clear ho gc HX6 HAV6 HG6 HSL
      dsimp only
      go_wp2_with fail
      refine(KE3.out _ _ HG7.out HS7.out).mono ?_
      rintro e wg ⟨BA,bc,rfl,hbv,gc⟩
      have HG8:=Lib.hid (HG7.out.trans gc)
      have HX8:=Lib.hid (heapKeep gc HX7.out)
      have HAV8:=Lib.hid (HAV7.out.mono gc)
      have HSL8:=Lib.hid (HSL7.out.mono gc)
      have HBV8:=Lib.hid hbv
      clear gc HX7 HAV7 HG7 HSL7 HS7 hbv KE3
      dsimp only
      go_wp2_with fail
      refine(KCL2.out hf24.out _ _ HSL8.out).mono ?_
      rintro e wh ⟨v1,rfl,ho,gc⟩
      have HG9:=Lib.hid (HG8.out.trans gc)
      have HS9:=Lib.hid (show SlO wh v1 m2 from Rd.of_own ho)
      have HX9:=Lib.hid (heapKeep gc HX8.out)
      have HAV9:=Lib.hid (HAV8.out.mono gc)
      have HBV9:=Lib.hid (HBV8.out.mono gc)
      obtain⟨A2,c2,rfl⟩:=own_slice ho
      clear ho gc HX8 HAV8 HG8 HSL8 HBV8 KCL2
      dsimp only
      go_wp2_with fail
      refine(KT3.out _ _ HG9.out HS9.out).mono ?_
      rintro e wi ⟨RR,rr,nr,RB,rc,rfl,htb,gc⟩
      have gX:=gc.alloc (.cells #[.slice RR nr rr,.slice RB TT.brs.length rc] 43)
      have HB10:=Lib.hid (heapNew wi (.cells #[.slice RR nr rr,.slice RB TT.brs.length rc] 43))
      have HG10:=Lib.hid (HG9.out.trans gX)
      have HX10:=Lib.hid (heapKeep gX HX9.out)
      have HAV10:=Lib.hid (HAV9.out.mono gX)
      have HBV10:=Lib.hid (HBV9.out.mono gX)
      have HTB10:=Lib.hid (SlBr.mono htb ((Grew.refl wi).alloc (.cells #[.slice RR nr rr,.slice RB TT.brs.length rc] 43)))
      clear gc gX htb HX9 HAV9 HBV9 HG9 HS9 KT3
      dsimp only
      obtain⟨wj,hwj⟩:∃ wj,wi.alloc (.cells #[.slice RR nr rr,.slice RB TT.brs.length rc] 43)=wj:=⟨_,rfl⟩
      rw[hwj] at HB10 HG10 HX10 HAV10 HBV10 HTB10
      obtain⟨TB,hTB⟩:∃ TB,wi.heap.size=TB:=⟨_,rfl⟩
      rw[hTB] at HB10
      have x2:wj.cell? ⟨XB,2,none⟩=some (.int .i64 o2):=cellOf HX10.out rfl
      have KOF:=Lib.hid (fun u W (g:Grew wj W)=>pOf BL u _ W (HBV10.out.mono g) (by have:=HEN1.out.1;omega))
      have KFD:=Lib.hid (fun u W (g:Grew wj W)=>tFind TT.brs u (.slice RR nr rr) _ W (SlBr.mono HTB10.out g))
      have hall:=HEN1.out.1
      have hbll:=HEN1.out.2
      have HENDD:=Lib.hid (fun W (g:Grew wj W)=>(show Grew w W from HG10.out.trans g))
      have HSAMC:=Lib.hid (fun(h:BL=AL)=>(show Calls Tryz.prog 32 #[.slice AA AL.length ac,.slice BA BL.length bc] wj fun e w'=>e=.returned (.bool true)∧Grew wj w' from by
       subst h
       exact samC _ _ _ _ HAV10.out HBV10.out))
      obtain⟨AA',ac',hAA,hal,hax,har⟩:=HAV10.out.open_
      cases hAA
      obtain⟨BA',bc',hBA,hbl,hbx,hbr⟩:=HBV10.out.open_
      cases hBA
      unfold maxLen at hax hbx
      have HARR:=Lib.hid har
      have HBRR:=Lib.hid hbr
      clear har hbr
      by_cases hk:o2=1
      case neg =>
       have hk1:(o2 != 1)=true:=by simpa using hk
       have hk2:(o2 == 1)=false:=by simpa using hk
       have KS:=Lib.hid (HSAMC.out (HSAME.out hk))
       clear hk HSAMC
       go_wp2_with fail
       refine KS.out.mono ?_
       rintro e wk ⟨rfl,gk⟩
       have HGK:=Lib.hid gk
       clear gk KS x2
       have x2:wk.cell? ⟨XB,2,none⟩=some (.int .i64 o2):=cellOf (heapKeep HGK.out HX10.out) rfl
       dsimp only
       clear HSAME HONE
       go_wp2_with fail
       clear x2
       go_loopg [99] AL.length (fun gg s99 wr=>∃ k:Nat,k≤AL.length∧AL.length-k≤gg∧s99=.int .i64 k∧Aside (Grew wj wr))
       case atStart=>exact⟨0,Nat.zero_le _,by omega,rfl,(show Aside _ from HGK.out)⟩
       case round =>
        obtain⟨k,hk,hgk,rfl,DW⟩:=hrel
        have HDW:=Lib.hid DW.out
        clear DW
        by_cases hkl:k<AL.length
        ·have hklz:(k:Int)<(AL.length:Int):=by omega
         have hk0:(0:Int)≤(k:Int):=by omega
         obtain⟨b,off,rfl,hbb,hcell⟩:=HARR.out (by omega)
         obtain⟨c0,c1,c2,c3⟩:=hcell _ HDW.out k hkl
         have HOFK:=Lib.hid (HOF.out AL[k] (List.getElem_mem hkl))
         generalize AL[k]=y at c0 c1 c2 c3 HOFK
         obtain⟨yu,yo,ya,yn⟩:=y
         dsimp only at c0 c1 c2 c3 HOFK
         clear hcell
         have kO:=KOF.out yu
         rw[HOFK.out] at kO
         unfold RetOf at kO
         dsimp only [Option.getD_some,Option.isSome_some] at kO
         have KO:=Lib.hid kO
         clear kO HOFK
         have HXC:=Lib.hid (heapNew wr (.cells #[.int .i64 yu,.int .i64 yo,.int .i64 ya,.int .i64 yn] 69))
         go_wp2_with fail
         clear c0 c1 c2 c3
         refine(KO.out _ (HDW.out.alloc _)).mono ?_
         rintro e w2 ⟨rfl,g2⟩
         have HX2:=Lib.hid (heapKeep (g2.trans ((Grew.refl w2).alloc (.cells #[.int .i64 yo,.int .i64 ya,.int .i64 yn] 24))) HXC.out)
         have HGN:=Lib.hid (((HDW.out.alloc _).trans g2).alloc (.cells #[.int .i64 yo,.int .i64 ya,.int .i64 yn] 24))
         have HN2:=Lib.hid (heapNew w2 (.cells #[.int .i64 yo,.int .i64 ya,.int .i64 yn] 24))
         clear g2 KO HXC
         obtain⟨wy,hwy⟩:∃ wy,w2.alloc (.cells #[.int .i64 yo,.int .i64 ya,.int .i64 yn] 24)=wy:=⟨_,rfl⟩
         rw[hwy] at HX2 HGN HN2
         have e1:wy.cell? ⟨wr.heap.size,1,none⟩=some (.int .i64 yo):=cellOf HX2.out rfl
         have e2:wy.cell? ⟨wr.heap.size,2,none⟩=some (.int .i64 ya):=cellOf HX2.out rfl
         have e3:wy.cell? ⟨wr.heap.size,3,none⟩=some (.int .i64 yn):=cellOf HX2.out rfl
         have d0:wy.cell? ⟨w2.heap.size,0,none⟩=some (.int .i64 yo):=cellOf HN2.out rfl
         have d1:wy.cell? ⟨w2.heap.size,1,none⟩=some (.int .i64 ya):=cellOf HN2.out rfl
         have d2:wy.cell? ⟨w2.heap.size,2,none⟩=some (.int .i64 yn):=cellOf HN2.out rfl
         have kN:=fun w=>neqGself w yo ya yn
         dsimp only
         go_wp2
         go_roundg (AL.length-(k+1))
         case measure=>omega
         case rel=>exact⟨k+1,by omega,by omega,by go_num,(show Aside _ from HGN.out)⟩
        ·have hklz:¬ (k:Int)<(AL.length:Int):=by omega
         clear hkl hgk hk
         go_wp2_with fail
         go_loopg [121] BL.length (fun gg s121 wr=>∃ k:Nat,k≤BL.length∧BL.length-k≤gg∧s121=.int .i64 k∧Aside (Grew wj wr))
         case atStart=>exact⟨0,Nat.zero_le _,by omega,rfl,(show Aside _ from HDW.out)⟩
         case round =>
          clear HDW
          obtain⟨k,hk,hgk,rfl,DW⟩:=hrel
          have HDW:=Lib.hid DW.out
          clear DW
          by_cases hkl:k<BL.length
          ·have hklz:(k:Int)<(BL.length:Int):=by omega
           have hk0:(0:Int)≤(k:Int):=by omega
           obtain⟨b,off,rfl,hbb,hcell⟩:=HBRR.out (by omega)
           obtain⟨c0,c1,c2,c3⟩:=hcell _ HDW.out k hkl
           have HFK:=Lib.hid (HFIND.out BL[k] (List.getElem_mem hkl))
           generalize BL[k]=y at c0 c1 c2 c3 HFK
           obtain⟨yu,yo,ya,yn⟩:=y
           dsimp only at c0 c1 c2 c3 HFK
           clear hcell
           have kO:=KFD.out yu
           unfold TFindEnd at kO
           generalize (brFind TT.brs yu).getD br0=z at kO
           generalize (brFind TT.brs yu).isSome=sm at kO HFK
           obtain⟨z0,z1,z2,z3,z4,z5⟩:=z
           dsimp only at kO
           have KO:=Lib.hid kO
           clear kO
           have HXC:=Lib.hid (heapNew wr (.cells #[.int .i64 yu,.int .i64 yo,.int .i64 ya,.int .i64 yn] 69))
           have HTC:=Lib.hid (heapKeep (HDW.out.alloc (.cells #[.int .i64 yu,.int .i64 yo,.int .i64 ya,.int .i64 yn] 69)) HB10.out)
           have HGA:=Lib.hid (HDW.out.alloc (.cells #[.int .i64 yu,.int .i64 yo,.int .i64 ya,.int .i64 yn] 69))
           obtain⟨wy,hwy⟩:∃ wy,wr.alloc (.cells #[.int .i64 yu,.int .i64 yo,.int .i64 ya,.int .i64 yn] 69)=wy:=⟨_,rfl⟩
           rw[hwy] at HXC HTC HGA
           have p0:wy.cell? ⟨TB,0,none⟩=some (.slice RR nr rr):=cellOf HTC.out rfl
           have p1:wy.cell? ⟨TB,1,none⟩=some (.slice RB TT.brs.length rc):=cellOf HTC.out rfl
           have e0:wy.cell? ⟨wr.heap.size,0,none⟩=some (.int .i64 yu):=cellOf HXC.out rfl
           go_wp2_with fail
           clear c0 c1 c2 c3
           refine(KO.out _ HGA.out).mono ?_
           rintro e w2 ⟨rfl,g2⟩
           have HX2:=Lib.hid (heapKeep (g2.trans ((Grew.refl w2).alloc (.cells #[.int .i64 z0,.int .i64 z1,.int .i64 z2,.string z3,.string z4] 64))) HXC.out)
           have HGN:=Lib.hid ((HGA.out.trans g2).alloc (.cells #[.int .i64 z0,.int .i64 z1,.int .i64 z2,.string z3,.string z4] 64))
           clear g2 KO HXC p0 p1 e0
           obtain⟨wz,hwz⟩:∃ wz,w2.alloc (.cells #[.int .i64 z0,.int .i64 z1,.int .i64 z2,.string z3,.string z4] 64)=wz:=⟨_,rfl⟩
           rw[hwz] at HX2 HGN
           have e2:wz.cell? ⟨wr.heap.size,2,none⟩=some (.int .i64 ya):=cellOf HX2.out rfl
           dsimp only
           by_cases hya:ya=0
           ·have hb:(ya != 0)=false:=by simpa using hya
            go_wp2
            go_roundg (BL.length-(k+1))
            case measure=>omega
            case rel=>exact⟨k+1,by omega,by omega,by go_num,(show Aside _ from HGN.out)⟩
           ·have hb:(ya != 0)=true:=by simpa using hya
            obtain rfl:sm=true:=HFK.out hya
            go_wp2
            go_roundg (BL.length-(k+1))
            case measure=>omega
            case rel=>exact⟨k+1,by omega,by omega,by go_num,(show Aside _ from HGN.out)⟩
          ·have hklz:¬ (k:Int)<(BL.length:Int):=by omega
           go_wp2
           go_ret
           exact⟨rfl,HENDD.out _ HDW.out⟩
      case pos =>
       subst hk
       have hk1:((1:Int) != 1)=false:=rfl
       have hlen:BL.length=AL.length+1:=HONE.out rfl
       have hw1:wrap64 ((AL.length:Int)+1)=(BL.length:Int):=by unfold wrap64;omega
       have hw2:((BL.length:Int) != (AL.length:Int)+1)=false:=by rw[bne_eq_false_iff_eq];omega
       have hw3:((BL.length:Int)=(AL.length:Int)+1):=by omega
       clear hlen
       have HGK:=Lib.hid (Grew.refl wj)
       clear HSAME HONE
       go_wp2_with fail
       clear x2
       go_loopg [99] AL.length (fun gg s99 wr=>∃ k:Nat,k≤AL.length∧AL.length-k≤gg∧s99=.int .i64 k∧Aside (Grew wj wr))
       case atStart=>exact⟨0,Nat.zero_le _,by omega,rfl,(show Aside _ from HGK.out)⟩
       case round =>
        obtain⟨k,hk,hgk,rfl,DW⟩:=hrel
        have HDW:=Lib.hid DW.out
        clear DW
        by_cases hkl:k<AL.length
        ·have hklz:(k:Int)<(AL.length:Int):=by omega
         have hk0:(0:Int)≤(k:Int):=by omega
         obtain⟨b,off,rfl,hbb,hcell⟩:=HARR.out (by omega)
         obtain⟨c0,c1,c2,c3⟩:=hcell _ HDW.out k hkl
         have HOFK:=Lib.hid (HOF.out AL[k] (List.getElem_mem hkl))
         generalize AL[k]=y at c0 c1 c2 c3 HOFK
         obtain⟨yu,yo,ya,yn⟩:=y
         dsimp only at c0 c1 c2 c3 HOFK
         clear hcell
         have kO:=KOF.out yu
         rw[HOFK.out] at kO
         unfold RetOf at kO
         dsimp only [Option.getD_some,Option.isSome_some] at kO
         have KO:=Lib.hid kO
         clear kO HOFK
         have HXC:=Lib.hid (heapNew wr (.cells #[.int .i64 yu,.int .i64 yo,.int .i64 ya,.int .i64 yn] 69))
         go_wp2_with fail
         clear c0 c1 c2 c3
         refine(KO.out _ (HDW.out.alloc _)).mono ?_
         rintro e w2 ⟨rfl,g2⟩
         have HX2:=Lib.hid (heapKeep (g2.trans ((Grew.refl w2).alloc (.cells #[.int .i64 yo,.int .i64 ya,.int .i64 yn] 24))) HXC.out)
         have HGN:=Lib.hid (((HDW.out.alloc _).trans g2).alloc (.cells #[.int .i64 yo,.int .i64 ya,.int .i64 yn] 24))
         have HN2:=Lib.hid (heapNew w2 (.cells #[.int .i64 yo,.int .i64 ya,.int .i64 yn] 24))
         clear g2 KO HXC
         obtain⟨wy,hwy⟩:∃ wy,w2.alloc (.cells #[.int .i64 yo,.int .i64 ya,.int .i64 yn] 24)=wy:=⟨_,rfl⟩
         rw[hwy] at HX2 HGN HN2
         have e1:wy.cell? ⟨wr.heap.size,1,none⟩=some (.int .i64 yo):=cellOf HX2.out rfl
         have e2:wy.cell? ⟨wr.heap.size,2,none⟩=some (.int .i64 ya):=cellOf HX2.out rfl
         have e3:wy.cell? ⟨wr.heap.size,3,none⟩=some (.int .i64 yn):=cellOf HX2.out rfl
         have d0:wy.cell? ⟨w2.heap.size,0,none⟩=some (.int .i64 yo):=cellOf HN2.out rfl
         have d1:wy.cell? ⟨w2.heap.size,1,none⟩=some (.int .i64 ya):=cellOf HN2.out rfl
         have d2:wy.cell? ⟨w2.heap.size,2,none⟩=some (.int .i64 yn):=cellOf HN2.out rfl
         have kN:=fun w=>neqGself w yo ya yn
         dsimp only
         go_wp2
         go_roundg (AL.length-(k+1))
         case measure=>omega
         case rel=>exact⟨k+1,by omega,by omega,by go_num,(show Aside _ from HGN.out)⟩
        ·have hklz:¬ (k:Int)<(AL.length:Int):=by omega
         clear hkl hgk hk
         go_wp2_with fail
         go_loopg [121] BL.length (fun gg s121 wr=>∃ k:Nat,k≤BL.length∧BL.length-k≤gg∧s121=.int .i64 k∧Aside (Grew wj wr))
         case atStart=>exact⟨0,Nat.zero_le _,by omega,rfl,(show Aside _ from HDW.out)⟩
         case round =>
          clear HDW
          obtain⟨k,hk,hgk,rfl,DW⟩:=hrel
          have HDW:=Lib.hid DW.out
          clear DW
          by_cases hkl:k<BL.length
          ·have hklz:(k:Int)<(BL.length:Int):=by omega
           have hk0:(0:Int)≤(k:Int):=by omega
           obtain⟨b,off,rfl,hbb,hcell⟩:=HBRR.out (by omega)
           obtain⟨c0,c1,c2,c3⟩:=hcell _ HDW.out k hkl
           have HFK:=Lib.hid (HFIND.out BL[k] (List.getElem_mem hkl))
           generalize BL[k]=y at c0 c1 c2 c3 HFK
           obtain⟨yu,yo,ya,yn⟩:=y
           dsimp only at c0 c1 c2 c3 HFK
           clear hcell
           have kO:=KFD.out yu
           unfold TFindEnd at kO
           generalize (brFind TT.brs yu).getD br0=z at kO
           generalize (brFind TT.brs yu).isSome=sm at kO HFK
           obtain⟨z0,z1,z2,z3,z4,z5⟩:=z
           dsimp only at kO
           have KO:=Lib.hid kO
           clear kO
           have HXC:=Lib.hid (heapNew wr (.cells #[.int .i64 yu,.int .i64 yo,.int .i64 ya,.int .i64 yn] 69))
           have HTC:=Lib.hid (heapKeep (HDW.out.alloc (.cells #[.int .i64 yu,.int .i64 yo,.int .i64 ya,.int .i64 yn] 69)) HB10.out)
           have HGA:=Lib.hid (HDW.out.alloc (.cells #[.int .i64 yu,.int .i64 yo,.int .i64 ya,.int .i64 yn] 69))
           obtain⟨wy,hwy⟩:∃ wy,wr.alloc (.cells #[.int .i64 yu,.int .i64 yo,.int .i64 ya,.int .i64 yn] 69)=wy:=⟨_,rfl⟩
           rw[hwy] at HXC HTC HGA
           have p0:wy.cell? ⟨TB,0,none⟩=some (.slice RR nr rr):=cellOf HTC.out rfl
           have p1:wy.cell? ⟨TB,1,none⟩=some (.slice RB TT.brs.length rc):=cellOf HTC.out rfl
           have e0:wy.cell? ⟨wr.heap.size,0,none⟩=some (.int .i64 yu):=cellOf HXC.out rfl
           go_wp2_with fail
           clear c0 c1 c2 c3
           refine(KO.out _ HGA.out).mono ?_
           rintro e w2 ⟨rfl,g2⟩
           have HX2:=Lib.hid (heapKeep (g2.trans ((Grew.refl w2).alloc (.cells #[.int .i64 z0,.int .i64 z1,.int .i64 z2,.string z3,.string z4] 64))) HXC.out)
           have HGN:=Lib.hid ((HGA.out.trans g2).alloc (.cells #[.int .i64 z0,.int .i64 z1,.int .i64 z2,.string z3,.string z4] 64))
           clear g2 KO HXC p0 p1 e0
           obtain⟨wz,hwz⟩:∃ wz,w2.alloc (.cells #[.int .i64 z0,.int .i64 z1,.int .i64 z2,.string z3,.string z4] 64)=wz:=⟨_,rfl⟩
           rw[hwz] at HX2 HGN
           have e2:wz.cell? ⟨wr.heap.size,2,none⟩=some (.int .i64 ya):=cellOf HX2.out rfl
           dsimp only
           by_cases hya:ya=0
           ·have hb:(ya != 0)=false:=by simpa using hya
            go_wp2
            go_roundg (BL.length-(k+1))
            case measure=>omega
            case rel=>exact⟨k+1,by omega,by omega,by go_num,(show Aside _ from HGN.out)⟩
           ·have hb:(ya != 0)=true:=by simpa using hya
            obtain rfl:sm=true:=HFK.out hya
            go_wp2
            go_roundg (BL.length-(k+1))
            case measure=>omega
            case rel=>exact⟨k+1,by omega,by omega,by go_num,(show Aside _ from HGN.out)⟩
          ·have hklz:¬ (k:Int)<(BL.length:Int):=by omega
           go_wp2
           go_ret
           exact⟨rfl,HENDD.out _ HDW.out⟩
end Go.Proofs.YtdochkemaiokfaaGreat