/- The reference of layer 22: At, walked. The conditions: the marks are short, the log is not long. -/
import Derived.BigQuiet
import Derived.Test.YtdochkemaiokfaaGreatRu10Q
import Derived.Test.YtdochkemaiokfaaGreatQ42
import Derived.Test.YtdochkemaiokfaaGreatQ41
import Derived.Test.YtdochkemaiokfaaGreatQ1
import Derived.Test.YtdochkemaiokfaaGreatQ8
import Derived.Test.YtdochkemaiokfaaGreatQ33
set_option maxHeartbeats 16000000
set_option maxRecDepth 100000
set_option linter.all false
namespace Go.Proofs.YtdochkemaiokfaaGreat
open Go.RowKit
def zE6:=Unit
theorem zE6.g {p:Prop} (_:zE6) (h:p:=by
 refine bodyPost_ret (v:=.tuple #[.agg #[.slice RA t.roots.length ra,.slice RB t.brs.length rb],.int .i64 0]) (by simp[results,Tryz.results25,go_sem,q0,q1]) rfl ?_;exact⟨_,_,rfl,qt,qg⟩
):p:=h
theorem c_23 {p:Prop} (h:p:=by
 have hfl:=HFL.out;subst hfl;have KE1:=uZ (KE.out n hn _ (HG1.out.trans HBW.out));have HLN:=uZ (List.length_take_of_le hn);unfold rH at KE1;generalize aG (l.take n)=RP at KE1 HQ2;obtain⟨t,i9,n9⟩:=RP;dsimp only at KE1 HQ2;have hres:=HQ2.out;subst hres;refine KE1.out.mono ?_;rintro e w2 ⟨rv,bv,rfl,ht,g2⟩;obtain⟨RA,ra,hRA,-⟩:=SlI.open_ (v:=rv) (l:=t.roots) (aEr ht);subst hRA;obtain⟨RB,rb,hRB,-⟩:=bQ.open_ (v:=bv) (l:=t.brs) (oR ht);subst hRB;have gX:=(HBW.out.trans g2).alloc (.cells #[.slice RA t.roots.length ra,.slice RB t.brs.length rb] 43);have HX2:=uZ (aD gX HX1.out);have HG2:=uZ (HG1.out.trans gX);have HN2:=uZ (aO w2 (.cells #[.slice RA t.roots.length ra,.slice RB t.brs.length rb] 43));have HT2:=uZ (dF.mono ht ((uX w2).alloc (.cells #[.slice RA t.roots.length ra,.slice RB t.brs.length rb] 43)));clear ht g2 gX KE1 KE HG1 HX1;have nX:zE6:=()
 exact s_20
):p:=h
theorem c_42 {p:Prop} (h:p:=by
 have r0:=h_150;have r1:=h_151;have z0:=h_181;have z1:=h_182;have HF:=h_135;go_wp2;obtain⟨q0,q1,qt,qg⟩:=HF.out;refine bodyPost_ret (v:=.tuple #[.agg #[.slice none 0 0,.slice none 0 0],.int .i64 2]) (by simp[results,Tryz.results25,go_sem,q0,q1]) rfl ?_;exact⟨_,_,rfl,qt,qg⟩
):p:=h
theorem aWn {l:List Opn} (h:aIw l) {d:Int} {n:Nat} (hn:n≤l.length) (h1:∀ j (hj:j<l.length),j<n→l[j].day≤d) (h2:∀ hj:n<l.length,¬ l[n].day≤d):(l.filter fun o=>!decide (d<o.day))=l.take n:=by
 have hs:=List.pairwise_iff_getElem.1 h.days
 conv=>lhs;rw[← List.take_append_drop n l]
 rw[List.filter_append]
 have e1:((l.take n).filter fun o=>!decide (d<o.day))=l.take n:=by
  rw[List.filter_eq_self];intro x hx;obtain⟨j,hj,e⟩:=List.mem_iff_getElem.1 hx;rw[List.length_take] at hj;rw[← e,List.getElem_take];have:=h1 j b_53 b_53;simp;omega
 have e2:((l.drop n).filter fun o=>!decide (d<o.day))=[]:=by
  rw[List.filter_eq_nil_iff];intro x hx;obtain⟨j,hj,e⟩:=List.mem_iff_getElem.1 hx;rw[List.length_drop] at hj;rw[← e,List.getElem_drop];have h3:=h2 b_53
  have h4:l[n].day≤l[n+j].day:=by
   by_cases hz:j=0
   ·subst hz
    exact Int.le_refl _
   ·exact hs n (n+j) b_53 b_53 b_53
  simp;omega
 rw[e1,e2,List.append_nil]
theorem aZd (l:List Opn) (d:Int) (hm:∀ x∈l,x.mark.size≤100) (hlen:l.length<1000000) (lv:Value) (w:World) (hv:SlO w lv l):Calls Tryz.prog 25 #[lv,.int .i64 d] w (bU (atR l d) w):=by
 have KR:=h_187;have HK:=uZ (fun h=>tO (tA (l:=l) h).1);have HQ:=uZ (show atR l d=if (cS l).2.2=0 then(if d<0∨1048575<d then(⟨[],[]⟩,2) else((aG (l.filter fun o=>!decide (d<o.day))).1,0)) else(⟨[],[]⟩,1) from rfl);have HVL:=uZ hv;have HAT:=uZ (fun(h:aIw l) n (hn:n≤l.length) h1 h2=>aWn (d:=d) h (n:=n) hn h1 h2);obtain⟨A,c,rfl,hlc,hcap,hr⟩:=hv.open_;unfold maxLen at hcap;have HR:=uZ hr;have KE:=uZ (fun n (hn:n≤l.length) W (g:aA w W)=>sO (l.take n) (fun x hx=>hm x (List.mem_of_mem_take hx)) b_41 _ W ((SlO.takeN HVL.out n hn).mono g));generalize atR l d=RES at HQ ⊢;generalize (l.filter fun o=>!decide (d<o.day))=FL at HQ HAT;generalize (cS l).2.2=E at KR HQ HK;have HN:=uZ hlen;have HX0:=h_180;have HG0:=uZ ((uX w).alloc (.cells #[.slice none 0 0,.slice none 0 0] 43));clear hv hm hlen hr;go_enter Tryz.func25,Tryz.ntmps25;go_wp2_with fail;refine(KR.out _ HG0.out).mono ?_;rintro e w1 ⟨rfl,g1⟩;have HG1:=h_229;have HX1:=uZ (aD g1 HX0.out);clear g1 HG0 HX0 KR;dsimp only;by_cases hE:E=0
 case neg =>
  have hb:(E == 0)=false:=by simpa using hE
  have hres:=HQ.out.trans (if_neg hE);subst hres;clear HQ hE;have r0:=h_150;have r1:=h_151;have z0:=h_181;have z1:=h_182;have HF:=h_135;go_wp2;obtain⟨q0,q1,qt,qg⟩:=HF.out;refine bodyPost_ret (v:=.tuple #[.agg #[.slice none 0 0,.slice none 0 0],.int .i64 1]) (by simp[results,Tryz.results25,go_sem,q0,q1]) rfl ?_;exact⟨_,_,rfl,qt,qg⟩
 case pos =>
  have hb:(E == 0)=true:=by simpa using hE
  have HQ1:=uZ (HQ.out.trans (if_pos hE));have HOK:=uZ (HAT.out (HK.out hE));subst hE;clear HQ HAT HK;by_cases hd:d<0∨1048575<d
  case pos =>
   have hres:=HQ1.out.trans (if_pos hd);subst hres;have HD:=uZ hd;clear hd HQ1 HOK;by_cases ha:d<0
   ·have hb1:decide (d<0)=true:=decide_eq_true ha
    exact c_42
   ·have hb1:decide (d<0)=false:=decide_eq_false ha
    have hb2:decide (1048575<d)=true:=decide_eq_true (by have:=HD.out;omega);have hb3:1048575<d:=by have:=HD.out;omega
    exact c_42
  case neg =>
   have HQ2:=uZ (HQ1.out.trans (if_neg hd));have hb1:decide (d<0)=false:=decide_eq_false b_53;have hb2:decide (1048575<d)=false:=decide_eq_false b_53;have hb3:¬ d<0:=by omega
   have hb4:¬ 1048575<d:=by omega
   clear HQ1 hd;go_wp2_with fail;clear hb1 hb2 hb3 hb4;go_loopg [6] l.length (fun gg s6 wr=>∃ n:Nat,n≤l.length∧l.length-n≤gg∧s6=.int .i64 n∧Aside (aA w1 wr)∧Aside (∀ j (hj:j<l.length),j<n→l[j].day≤d))
   case atStart=>exact⟨0,Nat.zero_le _,by omega,rfl,(show Aside _ from uX _),(show Aside _ from fun j hj h=>absurd h (Nat.not_lt_zero _))⟩
   case round =>
    obtain⟨n,hn,hg,rfl,BW,M⟩:=hrel;have HBW:=uZ BW.out;have HM:=uZ M.out;have hN:=HN.out;have h0n:(0:Int)≤(n:Int):=by omega
    have hnc:(n:Int)≤(c:Int):=by omega
    clear BW M;by_cases hlt:n<l.length
    ·have hltz:(n:Int)<(l.length:Int):=by omega
     obtain⟨b,off,rfl,hbb,hcell⟩:=HR.out b_53;obtain⟨-,c1,-⟩:=hcell wr (HG1.out.trans HBW.out) n hlt;clear hcell;by_cases hld:l[n].day≤d
     ·have HNX:=uZ (show ∀ j (hj:j<l.length),j<n+1→l[j].day≤d from fun j hj h=>by
       by_cases e:j=n
       ·subst e;exact hld
       ·exact HM.out j hj b_53)
      generalize l[n].day=dd at c1 hld;have hd1:decide (dd≤d)=true:=decide_eq_true hld;go_wp2;go_roundg (l.length-(n+1))
      case measure=>omega
      case rel=>exact⟨n+1,by omega,by omega,by go_num,(show Aside _ from HBW.out),(show Aside _ from HNX.out)⟩
     ·have HFL:=uZ (HOK.out n hn HM.out (fun _=>by first|exact hld|exact Int.not_le.1 hld))
      generalize l[n].day=dd at c1 hld;have hd1:decide (dd≤d)=false:=decide_eq_false hld;go_wp2_with fail;clear c1 hld hd1;exact c_23
    ·have hltz:¬ (n:Int)<(l.length:Int):=by omega
     have HFL:=uZ (HOK.out n hn HM.out (fun h=>absurd h hlt));go_wp2_with fail;exact c_23
end Go.Proofs.YtdochkemaiokfaaGreat