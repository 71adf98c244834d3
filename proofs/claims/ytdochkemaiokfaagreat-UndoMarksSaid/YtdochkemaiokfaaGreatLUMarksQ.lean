/- UndoMarks, walked; awake is given as hA. No other condition. -/
import Derived.BigQuiet
import Derived.Test.YtdochkemaiokfaaGreatQ38
import Derived.Test.YtdochkemaiokfaaGreatIdMQ
namespace Go.Proofs.YtdochkemaiokfaaGreat
open Go.RowKit
theorem less_no:∀ {x y:List UInt8},Lib.compareBytes y x=-1→(Op.bytesLess x y || (x == y))=false
 | [],[],h=>by simp[Lib.compareBytes] at h
 | [],_::_,h=>by simp[Lib.compareBytes] at h
 | _::_,[],_=>by simp[Op.bytesLess]
 | a::x,b::y,h=>by
  have ih:=@less_no x y
  rw[Lib.compareBytes] at h
  by_cases h1:b<a
  ·have h2:¬ a<b:=fun k=>absurd (UInt8.lt_trans h1 k) (UInt8.lt_irrefl _)
   have h3:¬ a=b:=fun k=>by subst k;exact absurd h1 (UInt8.lt_irrefl _)
   simp[Op.bytesLess,h2,h3]
  ·rw[if_neg h1] at h
   by_cases h2:a<b
   ·rw[if_pos h2] at h
    cases h
   ·rw[if_neg h2] at h
    have h3:a=b:=by
     have k1:¬ b.toNat<a.toNat:=h1
     have k2:¬ a.toNat<b.toNat:=h2
     exact UInt8.toNat_inj.1 (by omega)
    subst h3
    have:=ih h
    simpa [Op.bytesLess,h1] using this
theorem mkLt_leq {x y:ByteArray} (h:mkLt y x):(Op.bytesLess x.toList y.toList || (x.toList == y.toList))=false:=by
 rw[ByteArray.toList_eq,ByteArray.toList_eq]
 exact less_no h
theorem SlO.takeN {W:World} {A:Option Addr} {n c:Nat} {l:List Opn} (h:SlO W (.slice A n c) l) (k:Nat) (hk:k≤l.length):SlO W (.slice A k c) (l.take k):=by
 obtain⟨A',n',c',hv,hl,hn,hc,h0⟩:=h
 cases hv
 have hf:=flatMap_len Opn.cells 12 (fun _=>rfl) l
 have hm:=flatMap_len Opn.cells 12 (fun _=>rfl) (l.take k)
 rw[List.length_take,Nat.min_eq_left hk] at hm
 refine⟨A,k,c,rfl,by omega,by omega,hc,fun hpos=>?_⟩
 obtain⟨b,off,hA,hb,hcell⟩:=h0 (by omega)
 refine⟨b,off,hA,hb,fun j u hj=>hcell j u ?_⟩
 have e:l.flatMap Opn.cells=(l.take k).flatMap Opn.cells++(l.drop k).flatMap Opn.cells:=by rw[← List.flatMap_append,List.take_append_drop]
 rw[e,List.getElem?_append_left (List.getElem?_eq_some_iff.1 hj).1]
 exact hj
def RetMk (bs:List Br) (w:World) (e:Ending) (w':World):Prop:=∃ R r n A c,e=.returned (.tuple #[.agg #[.slice R n r,.slice A bs.length c],.int .i64 0])∧SlBr w' (.slice A bs.length c) bs∧Grew w w'
theorem marks_law {l:List Opn} (h:AdmL l) {m:List Mk} (hm:LedgerOk l m) (n:Nat):treeR (l.take n)=((replayF (l.take n)).1,0)∧∀ b∈(replayF (l.take n)).1.brs,b.mark.toList.isEmpty=false→(m.any fun y=>decide ((⟨b.mark,b.id⟩:Mk)=y))=true:=by
 have e:=List.take_append_drop n l
 have h':AdmL (l.take n++l.drop n):=by rw[e];exact h
 refine⟨tree_of (adm_pre _ _ _ rfl h'),fun b hb hne=>?_⟩
 have k1:=prefix_marks h' b hb hne
 rw[e] at k1
 exact List.any_eq_true.2 ⟨_,(hm.2 ⟨b.mark,b.id⟩).2 k1,decide_eq_true rfl⟩
theorem marks_tree (l:List Opn) (hwf:∀ i (h:i<l.length),WfO l[i]) (hl:l.length≤24) (h:AdmL l) {m:List Mk} (hm:LedgerOk l m) (n:Nat) (v:Value) (W:World) (hE:Env W) (hs:SlO W v (l.take n)):Calls Tryz.prog 22 #[v] W (RetMk (replayF (l.take n)).1.brs W):=by
 have:=uTree (l.take n) (fun i hi=>by rw[List.getElem_take];exact hwf _ _) v W hE hs (by rw[List.length_take];omega)
 rw[(marks_law h hm n).1] at this
 refine this.mono ?_
 rintro e W2 ⟨rv,bv,rfl,ht,g⟩
 obtain⟨B,c,hB,-⟩:=SlBr.open_ (v:=bv) (tr_br ht)
 subst hB
 obtain⟨R,r,hR,-⟩:=SlI.open_ (v:=rv) (tr_i ht)
 subst hR
 exact⟨R,r,_,B,c,rfl,tr_br ht,g⟩
set_option maxHeartbeats 8000000 in
set_option maxRecDepth 100000 in
theorem marks_of (l:List Opn) (hwf:∀ i (h:i<l.length),WfO l[i]) (lv:Value) (w:World) (hE:Env w) (hv:SlO w lv l) (hA:∀ W,Grew w W→Calls Tryz.prog 11 #[] W fun e W'=>e=.returned (.bool true)∧Grew W W'):Calls Tryz.prog 9 #[lv] w fun e w'=>e=.returned (.bool true)∧Grew w w':=by
 have KA:=Lib.hid hA
 have KW:=Lib.hid (fun W (g:Grew w W)=>few22 l lv W (hv.mono g))
 have HV:=Lib.hid hv
 have KCL:=Lib.hid (fun W (g:Grew w W) (h:l.length≤24)=>cloneO l lv W (hv.mono g) (by omega))
 have KL:=Lib.hid (fun(h:l.length≤24) v W (g:Grew w W) (hs:SlO W v l)=>uLedger l hwf v W (hE.mono g) hs (by omega))
 have KT:=Lib.hid (fun(h:l.length≤24) (ha:AdmL l) (m:List Mk) (hm:LedgerOk l m) n v W (g:Grew w W) hs=>marks_tree l hwf h ha hm n v W (hE.mono g) hs)
 have HLAW:=Lib.hid (fun(ha:AdmL l) (m:List Mk) (hm:LedgerOk l m) n=>(marks_law ha hm n).2)
 obtain⟨A,c,rfl,hlc,hcap,hr⟩:=hv.open_
 unfold maxLen at hcap
 have HTK:=Lib.hid (fun k (hk:k≤l.length) W (g:Grew w W) (h:l.length≤24)=>cloneO (l.take k) _ W ((SlO.takeN HV.out k hk).mono g) (by rw[List.length_take];omega))
 have HA0:=Lib.hid (fun(h:0<l.length)=>(hr h))
 clear hA hwf hE hv hr
 go_enter Tryz.func9,Tryz.ntmps9
 go_wp2_with fail
 refine(KA.out _ (Grew.refl w)).mono ?_
 rintro e wa ⟨rfl,ga⟩
 have HG:=Lib.hid ga
 clear ga
 dsimp only
 go_wp2_with fail
 refine(KW.out _ HG.out).mono ?_
 rintro e wb ⟨q,rfl,hq,gb⟩
 have HQ:=Lib.hid hq
 have HG2:=Lib.hid (HG.out.trans gb)
 clear hq gb HG
 dsimp only
 cases q
 case false =>
  clear HQ
  go_wp2_with fail
  refine(KA.out _ HG2.out).mono ?_
  rintro e wz ⟨rfl,g3⟩
  have HG3:=Lib.hid (HG2.out.trans g3)
  clear g3
  dsimp only
  go_wp2
  go_ret
  exact⟨rfl,HG3.out⟩
 case true =>
  have HF:=Lib.hid (HQ.out (by first|rfl|trivial))
  have hf24:=Lib.hid HF.out.2
  clear HQ
  go_wp2_with fail
  refine(KCL.out _ HG2.out hf24.out).mono ?_
  rintro e wc ⟨v1,rfl,ho,gc⟩
  have HG3:=Lib.hid (HG2.out.trans gc)
  have HS3:=Lib.hid (show SlO wc v1 l from Rd.of_own ho)
  obtain⟨A1,c1,rfl⟩:=own_slice ho
  clear ho gc
  dsimp only
  go_wp2_with fail
  refine(KL.out hf24.out _ _ HG3.out HS3.out).mono ?_
  rintro e wd ⟨h1,h2,gd⟩
  have HG4:=Lib.hid (HG3.out.trans gd)
  clear gd HS3
  by_cases hk:(keepF l).2.2=0
  case neg =>
   obtain rfl:=h1 hk
   clear h1 h2 hk
   dsimp only
   go_wp2
   go_ret
   exact⟨rfl,HG4.out⟩
  case pos =>
   obtain⟨m,v,hm,rfl,hmv⟩:=h2 hk
   have HADM:=Lib.hid (keep_ok hk).1
   have HM:=Lib.hid hm
   have HMV:=Lib.hid hmv
   obtain⟨MA,mc,rfl,hmc,hmx,hmr⟩:=hmv.open_
   unfold maxLen at hmx
   have HMR:=Lib.hid hmr
   have KT1:=Lib.hid (KT.out hf24.out HADM.out m HM.out)
   have HL1:=Lib.hid (HLAW.out HADM.out m HM.out)
   have HPW:=Lib.hid (List.pairwise_iff_getElem.1 hm.1)
   have KC:=Lib.hid (fun(x:ByteArray) (u:Int) W (g:Grew wd W)=>containsM m ⟨x,u⟩ _ W (HMV.out.mono g))
   unfold Mk.agg at KC
   dsimp only at KC
   clear h1 h2 hk hm hmv hmr KT HLAW HM HADM
   dsimp only
   go_wp2_with fail
   go_loopg [5,32] m.length (fun gg _ s32 wr=>∃ kk:Nat,kk≤m.length∧m.length-kk≤gg∧s32=.int .i64 kk∧Aside (Grew wd wr))
   case atStart=>exact⟨0,Nat.zero_le _,by omega,rfl,(show Aside _ from Grew.refl _)⟩
   case round =>
    obtain⟨kk,hkk,hg,rfl,BW⟩:=hrel
    by_cases hlt:kk<m.length
    ·have hltz:(kk:Int)<(m.length:Int):=by omega
     obtain⟨b,off,rfl,hb,hcell⟩:=HMR.out (by omega)
     rcases Nat.eq_zero_or_pos kk with rfl|hpos
     ·have hd:decide ((0:Int)<((0:Nat):Int))=false:=by decide
      clear hcell
      go_wp2
      go_quiet (fail)
      go_wp2
      go_roundg (m.length-1)
      case measure=>omega
      case rel=>exact⟨1,by omega,by omega,by go_num,(show Aside _ from BW.out.drewN _)⟩
     ·obtain⟨j,rfl⟩:∃ j,kk=j+1:=⟨kk-1,by omega⟩
      have hd:decide ((0:Int)<((j+1:Nat):Int))=true:=by rw[decide_eq_true_eq];omega
      have hsub:wrap64 (((j+1:Nat):Int)-1)=(j:Int):=by
       rw[show(((j+1:Nat):Int)-1)=(j:Int) by omega]
       unfold wrap64
       omega
      obtain⟨c0,-⟩:=hcell wr BW.out (j+1) hlt
      obtain⟨d0,-⟩:=hcell wr BW.out j (by omega)
      have hle:=mkLt_leq (HPW.out j (j+1) (by omega) hlt (by omega))
      generalize (m[j+1]).mark=x at c0 hle
      generalize (m[j]).mark=y at d0 hle
      have h0j:(0:Int)≤(j:Int):=by omega
      have hjl:(j:Int)<(m.length:Int):=by omega
      clear hcell
      go_wp2
      go_quiet (fail)
      go_wp2
      go_roundg (m.length-(j+1+1))
      case measure=>omega
      case rel=>exact⟨j+1+1,by omega,by omega,by go_num,(show Aside _ from BW.out.drewN _)⟩
    ·have hltz:¬ (kk:Int)<(m.length:Int):=by omega
     have HB:=Lib.hid BW.out
     clear BW hkk hg hlt
     have hlen1:wrap64 ((l.length:Int)+1)=((l.length+1:Nat):Int):=by
      have:=hf24.out
      unfold wrap64
      omega
     go_wp2_with fail
     go_loopg [6,55] (l.length+1) (fun gg _ s55 wr=>∃ n:Nat,n≤l.length+1∧l.length+1-n≤gg∧s55=.int .i64 n∧Aside (Grew wd wr))
     case atStart=>exact⟨0,Nat.zero_le _,by omega,rfl,(show Aside _ from HB.out)⟩
     case round =>
      obtain⟨n,hn,hg,rfl,CW⟩:=hrel
      have HCW:=Lib.hid CW.out
      clear CW
      by_cases hlt:n<l.length+1
      ·have hltz:(n:Int)<((l.length+1:Nat):Int):=by omega
       have hn0:(0:Int)≤(n:Int):=by omega
       have hnc:(n:Int)≤(c:Int):=by omega
       have KN:=Lib.hid (HTK.out n (by omega) _ (HG4.out.trans HCW.out) hf24.out)
       have HLN:=Lib.hid (List.length_take_of_le (show n≤l.length by omega))
       go_wp2_with fail
       refine KN.out.mono ?_
       rintro e we ⟨v2,rfl,ho,gc⟩
       have HG5:=Lib.hid (HCW.out.trans gc)
       have KT2:=Lib.hid (KT1.out n _ _ (HG4.out.trans HG5.out) (Rd.of_own ho))
       obtain⟨A2,c2,rfl⟩:=own_slice ho
       have HBS:=Lib.hid (HL1.out n)
       clear ho gc KN
       generalize (replayF (l.take n)).1.brs=bs at KT2 HBS
       generalize (l.take n).length=ln at KT2 HLN ⊢
       unfold RetMk at KT2
       dsimp only
       go_wp2_with fail
       refine KT2.out.mono ?_
       rintro e wf ⟨R,r,nr,B,bc,rfl,hb,gt⟩
       have HG6:=Lib.hid (HG5.out.trans gt)
       have HX6:=Lib.hid (heapNew wf (.cells #[.slice R nr r,.slice B bs.length bc] 43))
       have HG7:=Lib.hid (HG6.out.alloc (.cells #[.slice R nr r,.slice B bs.length bc] 43))
       have hb2:=SlBr.mono hb ((Grew.refl wf).alloc (.cells #[.slice R nr r,.slice B bs.length bc] 43))
       obtain⟨B',bc',hB,hbl,hbx,hbr⟩:=hb2.open_
       cases hB
       unfold maxLen at hbx
       have HBR:=Lib.hid hbr
       clear hb hb2 gt KT2 hbr
       obtain⟨wg,hwg⟩:∃ wg,wf.alloc (.cells #[.slice R nr r,.slice B bs.length bc] 43)=wg:=⟨_,rfl⟩
       rw[hwg] at HX6 HG7 HBR
       have t0:wg.cell? ⟨wf.heap.size,0,none⟩=some (.slice R nr r):=cellOf HX6.out rfl
       have t1:wg.cell? ⟨wf.heap.size,1,none⟩=some (.slice B bs.length bc):=cellOf HX6.out rfl
       dsimp only
       go_wp2_with fail
       clear t0 t1
       go_loopg [71] bs.length (fun gg s71 wr=>∃ k:Nat,k≤bs.length∧bs.length-k≤gg∧s71=.int .i64 k∧Aside (Grew wg wr))
       case atStart=>exact⟨0,Nat.zero_le _,by omega,rfl,(show Aside _ from Grew.refl _)⟩
       case round =>
        obtain⟨k,hk,hgk,rfl,DW⟩:=hrel
        have HDW:=Lib.hid DW.out
        clear DW
        by_cases hkl:k<bs.length
        ·have hklz:(k:Int)<(bs.length:Int):=by omega
         have hk0:(0:Int)≤(k:Int):=by omega
         obtain⟨b,off,rfl,hbb,hcell⟩:=HBR.out (by omega)
         obtain⟨kv,hkv,hc⟩:=hcell k hkl
         obtain⟨KVA,kvc,hKV,-⟩:=SlI.open_ hkv
         subst hKV
         obtain⟨c0,c1,c2,c3,c4,c5⟩:=hc _ HDW.out
         have HMEM:=Lib.hid (HBS.out bs[k] (List.getElem_mem hkl))
         generalize bs[k].kids.length=kvl at c5
         generalize bs[k]=y at c0 c1 c2 c3 c4 c5 HMEM
         obtain⟨yi,yp,yl,yt,ym,yk⟩:=y
         dsimp only at c0 c1 c2 c3 c4 c5 HMEM
         clear hcell hc hkv
         cases hem:ym.toList.isEmpty
         case false =>
          have hany:=HMEM.out hem
          go_wp2_with fail
          refine(KC.out ym yi _ ((HG7.out.trans HDW.out).alloc _)).mono ?_
          rintro e wz ⟨rfl,gz⟩
          have HGZ:=Lib.hid (show Grew wg wz from(HDW.out.alloc _).trans gz)
          clear gz c0 c1 c2 c3 c4 c5
          rw[hany]
          dsimp only
          go_wp2
          go_roundg (bs.length-(k+1))
          case measure=>omega
          case rel=>exact⟨k+1,by omega,by omega,by go_num,(show Aside _ from HGZ.out)⟩
         case true =>
          go_wp2
          go_roundg (bs.length-(k+1))
          case measure=>omega
          case rel=>exact⟨k+1,by omega,by omega,by go_num,(show Aside _ from HDW.out.alloc _)⟩
        ·have hklz:¬ (k:Int)<(bs.length:Int):=by omega
         have h24:=hf24.out
         go_wp2
         go_roundg (l.length+1-(n+1))
         case measure=>omega
         case rel=>exact⟨n+1,by omega,by omega,by go_num,(show Aside _ from HG7.out.trans HDW.out)⟩
      ·have hltz:¬ (n:Int)<((l.length+1:Nat):Int):=by omega
       go_wp2
       go_ret
       exact⟨rfl,HG4.out.trans HCW.out⟩
end Go.Proofs.YtdochkemaiokfaaGreat