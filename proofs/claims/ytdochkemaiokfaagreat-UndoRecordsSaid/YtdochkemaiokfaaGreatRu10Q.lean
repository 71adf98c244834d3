/- The reference of layer 22: Evidence, Ledger and Tree, walked. The conditions: the marks are short, the log is not long. -/
import Derived.Test.YtdochkemaiokfaaGreatQ42
import Derived.Test.YtdochkemaiokfaaGreatQ41
import Derived.Test.YtdochkemaiokfaaGreatQ34
import Derived.Test.YtdochkemaiokfaaGreatQ35
import Derived.Test.YtdochkemaiokfaaGreatQ1
import Derived.Test.YtdochkemaiokfaaGreatQ8
import Derived.Test.YtdochkemaiokfaaGreatQ29
import Derived.Test.YtdochkemaiokfaaGreatQ33
set_option maxHeartbeats 16000000
set_option maxRecDepth 100000
set_option linter.all false
namespace Go.Proofs.YtdochkemaiokfaaGreat
open Go.RowKit
theorem zK (l:List Opn) (hm:∀ x∈l,x.mark.size≤100) (hlen:l.length<1000000) (lv:Value) (w:World) (hv:SlO w lv l):Calls Tryz.prog 29 #[lv] w (aBj (xV l) w):=by
 have KR:=uZ (jI l hm hlen lv w hv);have KE:=uZ (fun W (g:aA w W)=>oE l b_53 lv W (hv.mono g));have HQ:=uZ (show xV l=if (cS l).2.2=0 then(aW l,0) else([],1) from rfl);obtain⟨A,n,rfl,-⟩:=hv.open_;generalize xV l=RES at HQ ⊢;generalize aW l=EV at KE HQ;generalize (cS l).2.2=E at KR HQ;clear hv hm hlen;by_cases hE:E=0
 ·have hb:(E == 0)=true:=by simpa using hE
  have hres:=HQ.out.trans (if_pos hE);subst hres hE;clear HQ;unfold aBj;dsimp only;go_enter Tryz.func29,Tryz.ntmps29;go_wp2_with fail;refine KR.out.mono ?_;rintro e w1 ⟨rfl,g1⟩;have HG1:=uZ g1;clear g1;dsimp only;go_wp2_with fail;refine(KE.out _ HG1.out).mono ?_;rintro e w2 ⟨v2,rfl,h2,g2⟩;obtain⟨A2,c2,hA2,-⟩:=h2.open_;subst hA2;have HG2:=uZ (HG1.out.trans g2);have HS2:=uZ h2;clear g2 h2;dsimp only;go_wp2;refine bodyPost_ret (v:=.tuple #[.slice A2 EV.length c2,.int .i64 0]) (by simp[results,Tryz.results29,go_sem]) rfl ⟨_,rfl,HS2.out,HG2.out⟩
 ·have hb:(E == 0)=false:=by simpa using hE
  have hres:=HQ.out.trans (if_neg hE);subst hres;clear HQ hE;unfold aBj;dsimp only;go_enter Tryz.func29,Tryz.ntmps29;go_wp2_with fail;refine KR.out.mono ?_;rintro e w1 ⟨rfl,g1⟩;have HG1:=uZ g1;clear g1;dsimp only;go_wp2;refine bodyPost_ret (v:=.tuple #[.slice none 0 0,.int .i64 1]) (by simp[results,Tryz.results29,go_sem]) rfl ⟨_,rfl,SlC.nil _,HG1.out⟩
theorem aGy (l:List Opn) (hm:∀ x∈l,x.mark.size≤100) (hlen:l.length<1000000) (lv:Value) (w:World) (hv:SlO w lv l):Calls Tryz.prog 31 #[lv] w (aIv l w):=by
 have KR:=uZ (jI l hm hlen lv w hv);have KE:=uZ (fun(hA:gD l) W (g:aA w W)=>zJ l hA b_53 lv W (hv.mono g));have HK:=uZ (fun h=>(tA (l:=l) h).1);obtain⟨A,n,rfl,-⟩:=hv.open_;unfold aIv;generalize (cS l).2.2=E at KR HK ⊢;clear hv hm hlen;by_cases hE:E=0
 ·have hb:(E == 0)=true:=by simpa using hE
  subst hE;have KE1:=uZ (KE.out (HK.out rfl));clear KE HK;go_enter Tryz.func31,Tryz.ntmps31;go_wp2_with fail;refine KR.out.mono ?_;rintro e w1 ⟨rfl,g1⟩;have HG1:=uZ g1;clear g1;dsimp only;go_wp2_with fail;refine(KE1.out _ HG1.out).mono ?_;rintro e w2 ⟨m,v2,rfl,hL,-,h2,g2⟩;obtain⟨A2,c2,hA2,-⟩:=h2.open_;subst hA2;have HG2:=uZ (HG1.out.trans g2);have HS2:=uZ h2;have HL:=uZ hL;clear g2 h2 hL;dsimp only;go_wp2;refine bodyPost_ret (v:=.tuple #[.slice A2 m.length c2,.int .i64 0]) (by simp[results,Tryz.results31,go_sem]) rfl ⟨fun h=>absurd rfl h,fun _=>⟨m,_,HL.out,rfl,HS2.out⟩,HG2.out⟩
 ·have hb:(E == 0)=false:=by simpa using hE
  have HE:=uZ hE;clear hE KE HK;go_enter Tryz.func31,Tryz.ntmps31;go_wp2_with fail;refine KR.out.mono ?_;rintro e w1 ⟨rfl,g1⟩;have HG1:=uZ g1;clear g1;dsimp only;go_wp2;refine bodyPost_ret (v:=.tuple #[.slice none 0 0,.int .i64 1]) (by simp[results,Tryz.results31,go_sem]) rfl ⟨fun _=>rfl,fun h=>absurd h HE.out,HG1.out⟩
theorem oB {w W:World} (hres:W.heap[w.heap.size]? = some (.cells #[.slice none 0 0,.slice none 0 0] 43 (0,0))) (hg:aA w W) {a b:Value} (ha:(∀ q n,a≠.int q n)∧∀ s,a≠.string s) {t':Tr} (ht:dF W a b t'):((W.setCell ⟨w.heap.size,0,none⟩ a).setCell ⟨w.heap.size,1,none⟩ b).cell? ⟨w.heap.size,0,none⟩=some a∧((W.setCell ⟨w.heap.size,0,none⟩ a).setCell ⟨w.heap.size,1,none⟩ b).cell? ⟨w.heap.size,1,none⟩=some b∧dF ((W.setCell ⟨w.heap.size,0,none⟩ a).setCell ⟨w.heap.size,1,none⟩ b) a b t'∧aA w ((W.setCell ⟨w.heap.size,0,none⟩ a).setCell ⟨w.heap.size,1,none⟩ b):=by
 have hX:jV W w.heap.size:=cH hres b_54;have k2:=heap_setCell_same W w.heap.size 0 _ _ a hres;have hX2:=h_140;have h2:=aTa hres a b;exact⟨aC h2 rfl,aC h2 rfl,(ht.turn (dB.set hX _ _)).turn (dB.set hX2 _ _),(hg.setCell (p:=⟨w.heap.size,0,none⟩) (Nat.le_refl _) _).setCell (p:=⟨w.heap.size,1,none⟩) (Nat.le_refl _) _⟩
def zE5:=Unit
theorem zE5.g {p:Prop} (_:zE5) (h:p:=by
 refine bodyPost_ret (v:=.tuple #[.agg #[.slice RA t.roots.length ra,.slice RB t.brs.length rb],.int .i64 0]) (by simp[results,Tryz.results23,go_sem,q0,q1]) rfl ?_;exact⟨_,_,rfl,qt,qg⟩
):p:=h
theorem aPs (l:List Opn) (hm:∀ x∈l,x.mark.size≤100) (hlen:l.length<1000000) (lv:Value) (w:World) (hv:SlO w lv l):Calls Tryz.prog 23 #[lv] w (bU (sF l) w):=by
 have KR:=h_187;have KE:=uZ (fun W (g:aA w W)=>sO l hm b_53 lv W (hv.mono g));have HQ:=uZ (show sF l=if (cS l).2.2=0 then((aG l).1,0) else(⟨[],[]⟩,1) from rfl);obtain⟨A,n,rfl,-⟩:=hv.open_;generalize sF l=RES at HQ ⊢;unfold rH at KE;generalize aG l=RP at KE HQ;generalize (cS l).2.2=E at KR HQ;obtain⟨t,i9,n9⟩:=RP;dsimp only at KE HQ;have HX0:=h_180;have HG0:=uZ ((uX w).alloc (.cells #[.slice none 0 0,.slice none 0 0] 43));clear hv hm hlen;by_cases hE:E=0
 ·have hb:(E == 0)=true:=by simpa using hE
  have hres:=HQ.out.trans (if_pos hE);subst hres hE;clear HQ;go_enter Tryz.func23,Tryz.ntmps23;go_wp2_with fail;refine(KR.out _ HG0.out).mono ?_;rintro e w1 ⟨rfl,g1⟩;have HG1:=h_229;have HX1:=uZ (aD g1 HX0.out);clear g1;dsimp only;go_wp2_with fail;refine(KE.out _ HG1.out).mono ?_;rintro e w2 ⟨rv,bv,rfl,ht,g2⟩;obtain⟨RA,ra,hRA,-⟩:=SlI.open_ (v:=rv) (l:=t.roots) (aEr ht);subst hRA;obtain⟨RB,rb,hRB,-⟩:=bQ.open_ (v:=bv) (l:=t.brs) (oR ht);subst hRB;have gX:=g2.alloc (.cells #[.slice RA t.roots.length ra,.slice RB t.brs.length rb] 43);have HX2:=uZ (aD gX HX1.out);have HG2:=uZ (HG1.out.trans gX);have HN2:=uZ (aO w2 (.cells #[.slice RA t.roots.length ra,.slice RB t.brs.length rb] 43));have HT2:=uZ (dF.mono ht ((uX w2).alloc (.cells #[.slice RA t.roots.length ra,.slice RB t.brs.length rb] 43)));clear ht g2 gX KE KR HG1 HX1 HG0 HX0;have nX:zE5:=()
  exact s_20
 ·have hb:(E == 0)=false:=by simpa using hE
  have hres:=HQ.out.trans (if_neg hE);subst hres;clear HQ hE;go_enter Tryz.func23,Tryz.ntmps23;go_wp2_with fail;refine(KR.out _ HG0.out).mono ?_;rintro e w1 ⟨rfl,g1⟩;have HG1:=h_229;have HX1:=uZ (aD g1 HX0.out);clear g1;have r0:=h_150;have r1:=h_151;have z0:=h_181;have z1:=h_182;have HF:=h_135;dsimp only;go_wp2;obtain⟨q0,q1,qt,qg⟩:=HF.out;refine bodyPost_ret (v:=.tuple #[.agg #[.slice none 0 0,.slice none 0 0],.int .i64 1]) (by simp[results,Tryz.results23,go_sem,q0,q1]) rfl ?_;exact⟨_,_,rfl,qt,qg⟩
end Go.Proofs.YtdochkemaiokfaaGreat