/- UndoRecords, walked; awake is given as hA. No other condition. -/
import Derived.Test.YtdochkemaiokfaaGreatQ15
import Derived.Test.YtdochkemaiokfaaGreatQ30
import Derived.Test.YtdochkemaiokfaaGreatQ34
import Derived.Test.YtdochkemaiokfaaGreatRu10Q
import Derived.Test.YtdochkemaiokfaaGreatSamQ
import Derived.Test.YtdochkemaiokfaaGreatQ1
set_option maxHeartbeats 16000000
set_option maxRecDepth 100000
set_option linter.all false
namespace Go.Proofs.YtdochkemaiokfaaGreat
open Go.RowKit
def bDh (l:List Opn) (m:List Mk) (n:Int):Prop:=((cS l).2.2≠0→m=[]∧n=1)∧((cS l).2.2=0→cU l m∧n=0)
theorem aVk {l:List Opn} {a b:List Mk} {n k:Int} (h:bDh l a n) (h2:bDh l b k):a=b∧n=k:=by
 by_cases h0:(cS l).2.2=0
 ·obtain⟨x,rfl⟩:=h.2 h0
  obtain⟨y,rfl⟩:=h2.2 h0;exact⟨rR xI x.1 y.1 fun z=>(x.2 z).trans (y.2 z).symm,rfl⟩
 ·obtain⟨rfl,rfl⟩:=h.1 h0
  obtain⟨rfl,rfl⟩:=h2.1 h0;exact⟨rfl,rfl⟩
theorem aZo {l:List Opn} {w w':World} {e:Ending} (h:aIv l w e w'):∃ m n v,bDh l m n∧e=.returned (.tuple #[v,.int .i64 n])∧SlM w' v m∧aA w w':=by
 obtain⟨h1,h2,h3⟩:=h;by_cases h0:(cS l).2.2=0
 ·obtain⟨m,v,hL,rfl,hm⟩:=h2 h0
  exact⟨m,0,v,⟨fun h=>absurd h0 h,fun _=>⟨hL,rfl⟩⟩,rfl,hm,h3⟩
 ·exact⟨[],1,_,⟨fun _=>⟨rfl,rfl⟩,fun h=>absurd h h0⟩,h1 h0,SlM.nil _,h3⟩
theorem aUv (l:List Opn) (hwf:∀ i (h:i<l.length),WfO l[i]) (lv:Value) (w:World) (hE:Env w) (hv:SlO w lv l) (hA:∀ W,aA w W→Calls Tryz.prog 11 #[] W fun e W'=>e=.returned (.bool true)∧aA W W'):Calls Tryz.prog 5 #[lv] w fun e w'=>e=.returned (.bool true)∧aA w w':=by
 have KA:=uZ hA;have KW:=uZ (fun W (g:aA w W)=>aWg l lv W (hv.mono g));have KCL:=h_147;have KE0:=uZ (fun(h:l.length≤24) v W (g:aA w W) (hs:SlO W v l)=>uH l hwf v W (hE.mono g) hs b_53);have KE1:=uZ (fun(h:aSp l) W (g:aA w W)=>zK l (fun x hx=>(h.1 x hx).2) (by have:=h.2;omega) lv W (hv.mono g));have KL0:=uZ (fun(h:l.length≤24) v W (g:aA w W) (hs:SlO W v l)=>(aJj l hwf v W (hE.mono g) hs b_53).mono fun _ _ h=>aZo h);have KL1:=uZ (fun(h:aSp l) W (g:aA w W)=>(aGy l (fun x hx=>(h.1 x hx).2) (by have:=h.2;omega) lv W (hv.mono g)).mono fun _ _ h=>aZo h);obtain⟨A,c,rfl,hlc,hcap,hr⟩:=hv.open_;unfold maxLen at hcap;clear hA hwf hE hv hr;unfold aBj at KE0 KE1;generalize xV l=E0 at KE0 KE1;obtain⟨EV,ee⟩:=E0;dsimp only at KE0 KE1;go_enter Tryz.func5,Tryz.ntmps5;go_wp2_with fail;refine(KA.out _ (uX w)).mono ?_;rintro e wa ⟨rfl,ga⟩;have HG:=uZ ga;clear ga;dsimp only;go_wp2_with fail;refine(KW.out _ HG.out).mono ?_;rintro e wb ⟨q,rfl,hq,gb⟩;have HQ:=uZ hq;have HG2:=uZ (HG.out.trans gb);clear hq gb HG;dsimp only;cases q
 case false =>
  exact c_84
 case true =>
  have HF:=uZ (HQ.out b_46);have hf24:=uZ HF.out.2;clear HQ;go_wp2_with fail;refine(KCL.out _ HG2.out hf24.out).mono ?_;rintro e wc3 ⟨v1,rfl,ho,gc⟩;have HG3:=uZ (HG2.out.trans gc);have HS3:=uZ (show SlO wc3 v1 l from Rd.of_own ho);obtain⟨A1,c1,rfl⟩:=aJ ho;clear ho gc HG2;dsimp only;go_wp2_with fail;refine(KE0.out hf24.out _ _ HG3.out HS3.out).mono ?_;rintro e wd ⟨va,rfl,hva,gd⟩;have HG4:=uZ (HG3.out.trans gd);obtain⟨AA,ca,hAA,-⟩:=hva.open_;subst hAA;have EA4:=uZ hva;clear gd HS3 HG3 hva KE0;dsimp only;go_wp2_with fail;refine(KE1.out HF.out _ HG4.out).mono ?_;rintro e we ⟨vb,rfl,hvb,gd⟩;have HG5:=uZ (HG4.out.trans gd);obtain⟨AB,cb,hAB,-⟩:=hvb.open_;subst hAB;have EA5:=uZ (EA4.out.mono gd);have EB5:=uZ hvb;clear gd HG4 hvb EA4 KE1;dsimp only;go_wp2_with fail;refine(KCL.out _ HG5.out hf24.out).mono ?_;rintro e wc6 ⟨v1,rfl,ho,gc⟩;have HG6:=uZ (HG5.out.trans gc);have HS6:=uZ (show SlO wc6 v1 l from Rd.of_own ho);obtain⟨A1,c1,rfl⟩:=aJ ho;have EA6:=uZ (EA5.out.mono gc);have EB6:=uZ (EB5.out.mono gc);clear ho gc HG5 EA5 EB5;dsimp only;go_wp2_with fail;refine(KL0.out hf24.out _ _ HG6.out HS6.out).mono ?_;rintro e wf ⟨m1,n1,v2,h1,rfl,hm1,gd⟩;have HG7:=uZ (HG6.out.trans gd);obtain⟨AC,cc,hAC,-⟩:=hm1.open_;subst hAC;have EA7:=uZ (EA6.out.mono gd);have EB7:=uZ (EB6.out.mono gd);have EC7:=uZ hm1;have HI1:=uZ h1;clear gd HG6 HS6 EA6 EB6 hm1 h1 KL0;dsimp only;go_wp2_with fail;refine(KL1.out HF.out _ HG7.out).mono ?_;rintro e wg ⟨m2,n2,v3,h2,rfl,hm2,gd⟩;obtain⟨rfl,rfl⟩:=aVk HI1.out h2;have HG8:=uZ (HG7.out.trans gd);obtain⟨AD,cd,hAD,-⟩:=hm2.open_;subst hAD;have HC1:=uZ (bEg EV _ _ _ (EA7.out.mono gd) (EB7.out.mono gd));have EC8:=uZ (EC7.out.mono gd);have ED8:=uZ hm2;clear gd HG7 EA7 EB7 EC7 hm2 h2 HI1 KL1;dsimp only;go_wp2_with fail;refine(HC1.out).mono ?_;rintro e wh ⟨rfl,gd⟩;have HG9:=uZ (HG8.out.trans gd);have HC2:=uZ (bEf m1 _ _ _ (EC8.out.mono gd) (ED8.out.mono gd));clear gd HG8 EC8 ED8 HC1;dsimp only;go_wp2_with fail;refine HC2.out.mono ?_;rintro e wi ⟨rfl,gd⟩;have HG10:=uZ (HG9.out.trans gd);clear gd HC2 HG9;dsimp only;go_wp2;go_ret;exact⟨rfl,HG10.out⟩
end Go.Proofs.YtdochkemaiokfaaGreat