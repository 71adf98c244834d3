/- The reference of layer 22: Counts, walked. The conditions: the marks are short, the log is not long. -/
import Derived.BigQuiet
import Derived.Test.YtdochkemaiokfaaGreatQ42
import Derived.Test.YtdochkemaiokfaaGreatQ41
import Derived.Test.YtdochkemaiokfaaGreatQ8
import Derived.Test.YtdochkemaiokfaaGreatQ1
import Derived.Test.YtdochkemaiokfaaGreatQ34
set_option maxHeartbeats 16000000
set_option maxRecDepth 100000
set_option linter.all false
namespace Go.Proofs.YtdochkemaiokfaaGreat
open Go.RowKit
theorem zU {w w':World} {base:Nat} {e:TypeId} {k:Nat} {v:Value} {n:Nat} {xs:List Value} (h:w.ownsRow base e k v n xs) (g:aA w w'):w'.ownsRow base e k v n xs:=by
 obtain⟨h1,h2⟩:=h;refine⟨h1,?_⟩;rcases h2 with h|⟨g0,cap,cur,hv,hg,hc,r⟩
 ·exact .inl h
 ·exact .inr ⟨g0,cap,cur,hv,hg,aD g hc,r⟩
def aFp (l:List Opn) (k:Nat):List Int:=(aIz l k).map fun p=>p.2.id
theorem aRi (l:List Opn):aFp l l.length=(cN l).map fun p=>p.2.id:=by
 unfold aFp;rw[aEx]
theorem aRh (l:List Opn) (k:Nat):(aFp l k).length≤k:=by
 unfold aFp aIz;rw[List.length_map];exact Nat.le_trans (List.length_filter_le _ _) b_41
theorem aVy {l:List Opn} {k:Nat} (h:k<l.length) (hc:cE l l[k]=false):aFp l (k+1)=aFp l k:=by
 unfold aFp;rw[lV l k h,hc,if_neg b_52]
theorem aRg {l:List Opn} {k:Nat} (h:k<l.length) (hc:cE l l[k]=true):aFp l (k+1)=aFp l k++[l[k].id]:=by
 unfold aFp;rw[lV l k h,hc,if_pos rfl,List.map_append];rfl
theorem aHb (l:List Opn) (hm:∀ x∈l,x.mark.size≤100) (hlen:l.length<1000000) (lv:Value) (w:World) (hv:SlO w lv l):Calls Tryz.prog 21 #[lv] w (aOn (lC l) w):=by
 have KR:=uZ (jI l hm hlen lv w hv);have KC:=uZ (fun i (hi:i<l.length) W (g:aA w W)=>sQ l i hi b_53 lv W (hv.mono g));have HQ:=uZ (show lC l=if (cS l).2.2=0 then((cN l).map fun p=>p.2.id,0) else([],1) from rfl);have HAL:=uZ (aRi l);have HNO:=uZ (fun k (h:k<l.length)=>aVy h);have HYES:=uZ (fun k (h:k<l.length)=>aRg h);have HLE:=uZ (aRh l);obtain⟨A,c,rfl,hlc,hcap,hr⟩:=hv.open_;unfold maxLen at hcap;have HR:=uZ hr;obtain⟨i0,hi,hz0,hz1,hz2⟩:=info_parts lJ;generalize lC l=RES at HQ ⊢;generalize ((cN l).map fun p=>p.2.id)=CI at HQ HAL;generalize (cS l).2.2=E at KR HQ;have HN:=uZ hlen;clear hv hm hlen hr;by_cases hE:E=0
 ·have hb:(E == 0)=true:=by simpa using hE
  have hres:=HQ.out.trans (if_pos hE);subst hres hE;clear HQ;unfold aOn;dsimp only;go_enter Tryz.func21,Tryz.ntmps21;go_wp2_with fail;refine KR.out.mono ?_;rintro e w1 ⟨rfl,g1⟩;have HG1:=uZ g1;clear g1 KR;dsimp only;go_wp2_with fail;go_loopg [4,5] l.length (fun gg s4 s5 wr=>∃ kk:Nat,kk≤l.length∧l.length-kk≤gg∧s5=.int .i64 kk∧Aside (wr.ownsRow w1.heap.size 3 1 s4 (aFp l kk).length ((aFp l kk).flatMap eE))∧Aside (aA w1 wr))
  case atStart=>exact⟨0,Nat.zero_le _,by omega,rfl,(show Aside _ from World.ownsRow_nil _ _ _ _),(show Aside _ from uX _)⟩
  case round =>
   obtain⟨kk,hkk,hg,rfl,OW,BW⟩:=hrel;have HOW:=uZ OW.out;have HBW:=uZ BW.out;have hN:=HN.out;have hle:=HLE.out kk;clear OW BW;by_cases hlt:kk<l.length
   ·have hltz:(kk:Int)<(l.length:Int):=by omega
    have h0z:=h_214;have KC1:=uZ (KC.out kk hlt _ (HG1.out.trans HBW.out));have HNO1:=uZ (HNO.out kk hlt);have HYES1:=uZ (HYES.out kk hlt);obtain⟨b,off,rfl,hbb,hcell⟩:=HR.out b_53;have HCE:=h_204;clear hcell;generalize cE l l[kk]=cb at KC1 HNO1 HYES1;generalize l[kk]=y at HCE HYES1;obtain⟨y0,y1,y2,y3,y4,y5,y6,y7,y8,y9,y10,y11⟩:=y;dsimp only at HCE HYES1;go_wp2_with fail;refine KC1.out.mono ?_;rintro e w2 ⟨rfl,g2⟩;have OW2:=uZ (zU HOW.out g2);have G2:=uZ (HBW.out.trans g2);clear g2 KC1 HOW;dsimp only;cases cb
    case false =>
     have HQ2:=uZ (HNO1.out rfl);clear HNO1 HYES1;go_wp2;go_roundg (l.length-(kk+1))
     case measure=>omega
     case rel=>exact⟨kk+1,by omega,by omega,by go_num,(show Aside _ by rw[HQ2.out];exact OW2.out),(show Aside _ from G2.out)⟩
    case true =>
     have HQ2:=uZ (HYES1.out rfl);clear HNO1 HYES1;obtain⟨c0,-⟩:=HCE.out w2 (HG1.out.trans G2.out);go_wp2_with (at_builtin;refine aXi rfl _ _ 38 rfl w1 3 i0 (.int .i64 0) 1 8 Tryz.underlying38 hi hz0 hz1 hz2 rfl b_53 _ _ _ b_55 _ (zU OW2.out ((uX _).alloc _)) (G2.out.alloc _) _ 1 [.int .i64 y0] b_55 (gE _ rfl _ b_54) rfl b_45 b_47 b_53 ?_;intro v8 w8 hown8 hg8 _)
     have OW8:=uZ hown8;have G8:=uZ hg8;clear hown8 hg8;go_wp2;go_roundg (l.length-(kk+1))
     case measure=>omega
     case rel =>
      refine⟨kk+1,by omega,by omega,by go_num,(show Aside _ from ?_),(show Aside _ from G8.out)⟩;rw[HQ2.out,List.flatMap_append,List.length_append];exact OW8.out
   ·have hltz:¬ (kk:Int)<(l.length:Int):=by omega
    obtain rfl:kk=l.length:=by omega
    have hal:=HAL.out;obtain⟨A5,c5,rfl⟩:=aJ HOW.out
    have HS:=uZ (show SlI wr (.slice A5 (aFp l l.length).length c5) CI from by
     have h:=HOW.out;rw[hal] at h;rw[hal]
     exact Rd.of_own h)
    clear hal;go_wp2;refine bodyPost_ret (v:=.tuple #[.slice A5 (aFp l l.length).length c5,.int .i64 0]) (by simp[results,Tryz.results21,go_sem]) rfl ⟨_,rfl,HS.out,HG1.out.trans HBW.out⟩
 ·have hb:(E == 0)=false:=by simpa using hE
  have hres:=HQ.out.trans (if_neg hE);subst hres;clear HQ hE;unfold aOn;dsimp only;go_enter Tryz.func21,Tryz.ntmps21;go_wp2_with fail;refine KR.out.mono ?_;rintro e w1 ⟨rfl,g1⟩;have HG1:=uZ g1;clear g1;dsimp only;go_wp2;refine bodyPost_ret (v:=.tuple #[.slice none 0 0,.int .i64 1]) (by simp[results,Tryz.results21,go_sem]) rfl ⟨_,rfl,SlI.nil _,HG1.out⟩
end Go.Proofs.YtdochkemaiokfaaGreat