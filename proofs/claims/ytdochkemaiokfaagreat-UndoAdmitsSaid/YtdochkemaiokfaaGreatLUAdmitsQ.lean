/- UndoAdmits, walked; awake is given as hA. The condition: the operation's numbers are numbers of an int. -/
import Derived.BigQuiet
import Derived.Deep.CutRange
import Derived.Deep.RegionHeld3
import Derived.Test.YtdochkemaiokfaaGreatLULastQ
import Derived.Test.YtdochkemaiokfaaGreatSamQ
import Derived.Test.YtdochkemaiokfaaGreatRu13Q
import Derived.Test.YtdochkemaiokfaaGreatQ1
import Derived.Test.YtdochkemaiokfaaGreatQ32
import Derived.Test.YtdochkemaiokfaaGreatQ33
set_option maxHeartbeats 16000000
set_option maxRecDepth 100000
set_option linter.all false
namespace Go.Proofs.YtdochkemaiokfaaGreat
open Go.RowKit
theorem aOj (l:List Opn) (o:Opn) (hwf:∀ i (h:i<l.length),WfO l[i]) (hwo:WfO o) (lv:Value) (w:World) (hE:Env w) (hv:SlO w lv l) (hA:∀ W,aA w W→Calls Tryz.prog 11 #[] W fun e W'=>e=.returned (.bool true)∧aA W W'):Calls Tryz.prog 3 #[lv,o.agg] w fun e w'=>e=.returned (.bool true)∧aA w w':=by
 have KA:=uZ hA;have KW:=uZ (fun W (g:aA w W)=>aWg l lv W (hv.mono g));have KCL:=h_147;have KF:=uZ (fun W=>aAj o W);have KC0:=uZ (fun(h:l.length≤24) v W (g:aA w W) (hs:SlO W v l)=>yU l hwf v W (hE.mono g) hs b_53);have KC1:=uZ (fun(h:aSp l) W (g:aA w W)=>zN l (fun x hx=>(h.1 x hx).2) (by have:=h.2;omega) lv W (hv.mono g));have KAD:=uZ (fun(h:l.length≤24) v W (g:aA w W) (h2:SlO W v l)=>nY l o hwf hwo v W (hE.mono g) h2 b_53);have KAR:=uZ (fun(h:aSp l) (h1:aXj o) W (g:aA w W)=>aKs l o (fun x hx=>(h.1 x hx).2) h1.2 (by have:=h.2;omega) lv W (hv.mono g));obtain⟨A,c,rfl,hlc,hcap,hr⟩:=hv.open_;unfold maxLen at hcap;clear hA hwf hwo hE hv hr;unfold aOo at KC0;generalize (cS l).2=C0 at KC0 KC1;obtain⟨ci,ce⟩:=C0;unfold aSm at KAD KAR;generalize yJ l o=AR at KAD KAR;generalize hFO:aXj o=FO at KF KAR;obtain⟨o0,o1,o2,o3,o4,o5,o6,o7,o8,o9,o10,o11⟩:=o;unfold Opn.agg at KAD KAR KF ⊢;dsimp only at KC0 KC1 KAD KAR KF ⊢;have HX0:=h_32;have HGU:=h_26;clear hFO;go_enter Tryz.func3,Tryz.ntmps3;go_wp2_with fail;generalize w.alloc (.cells #[.int .i64 o0,.int .i64 o1,.int .i64 o2,.int .i64 o3,.int .i64 o4,.int .i64 o5,.int .i64 o6,.string o7,.string o8,.int .i64 o9,.int .i64 o10,.int .i64 o11] 26)=w1 at *;generalize w.heap.size=XB at *;refine(KA.out _ HGU.out).mono ?_;rintro e wa ⟨rfl,ga⟩;have HG:=uZ (HGU.out.trans ga);have HX1:=uZ (aD ga HX0.out);clear ga HX0 HGU;dsimp only;go_wp2_with fail;refine(KW.out _ HG.out).mono ?_;rintro e wb ⟨q,rfl,hq,gb⟩;have HQ:=uZ hq;have HG2:=uZ (HG.out.trans gb);have HX2:=uZ (aD gb HX1.out);clear hq gb HG HX1;dsimp only;cases q
 case false =>
  exact c_84
 case true =>
  have HF:=uZ (HQ.out b_46);have hf24:=uZ HF.out.2;clear HQ;obtain⟨x0,x1,x2,x3,x4,x5,x6,x7,x8,x9,x10,x11⟩:=vS HX2.out;go_wp2_with fail;clear x0 x1 x2 x3 x4 x5 x6 x7 x8 x9 x10 x11;refine(KF.out _).mono ?_;rintro e wc ⟨q2,rfl,hq2,gc⟩;have HG3:=uZ (HG2.out.trans gc);have BX3:=uZ (aD gc HX2.out);have HQ2:=uZ hq2;clear gc HX2 HG2 hq2 KF;dsimp only;cases q2
  case false =>
   clear HQ2;go_wp2_with fail;refine(KA.out _ HG3.out).mono ?_;rintro e wz ⟨rfl,g3⟩;have HG4:=uZ (HG3.out.trans g3);clear g3;dsimp only;go_wp2;go_ret;exact⟨rfl,HG4.out⟩
  case true =>
   have HFO:=uZ (HQ2.out b_46);clear HQ2;go_wp2_with fail;refine(KCL.out _ HG3.out hf24.out).mono ?_;rintro e wc4 ⟨v1,rfl,ho,gc⟩;have HG4:=uZ (HG3.out.trans gc);have HS4:=uZ (show SlO wc4 v1 l from Rd.of_own ho);obtain⟨A1,c1,rfl⟩:=aJ ho;have BX4:=uZ (aD gc BX3.out);clear ho gc HG3 BX3;dsimp only;go_wp2_with fail;refine(KC0.out hf24.out _ _ HG4.out HS4.out).mono ?_;rintro e wd ⟨rfl,gd⟩;have HG5:=uZ (HG4.out.trans gd);have BX5:=uZ (aD gd BX4.out);clear gd HS4 HG4 BX4 KC0;dsimp only;go_wp2_with fail;refine(KC1.out HF.out _ HG5.out).mono ?_;rintro e we ⟨rfl,gd⟩;have HG6:=uZ (HG5.out.trans gd);have BX6:=uZ (aD gd BX5.out);clear gd HG5 BX5 KC1;dsimp only;have KCL1:=uZ (fun W g=>KCL.out W g hf24.out);have KAD1:=uZ (KAD.out hf24.out);obtain⟨x0,x1,x2,x3,x4,x5,x6,x7,x8,x9,x10,x11⟩:=vS BX6.out;go_wp2_with fail;go_cut [9,10,11] from 39 to 46 (fun s4 s5 s6 wx=>bBm we AR s4 s5 s6 wx)
   case first =>
    have HSS:=uZ (fun W (g:aA we W)=>(⟨uQ g x0,uQ g x1,uQ g x2,uQ g x3,uQ g x4,uQ g x5,uQ g x6,uQ g x7,uQ g x8,uQ g x9,uQ g x10,uQ g x11,g⟩:W.cell? ⟨XB,0,none⟩=some (.int .i64 o0)∧W.cell? ⟨XB,1,none⟩=some (.int .i64 o1)∧W.cell? ⟨XB,2,none⟩=some (.int .i64 o2)∧W.cell? ⟨XB,3,none⟩=some (.int .i64 o3)∧W.cell? ⟨XB,4,none⟩=some (.int .i64 o4)∧W.cell? ⟨XB,5,none⟩=some (.int .i64 o5)∧W.cell? ⟨XB,6,none⟩=some (.int .i64 o6)∧W.cell? ⟨XB,7,none⟩=some (.string o7)∧W.cell? ⟨XB,8,none⟩=some (.string o8)∧W.cell? ⟨XB,9,none⟩=some (.int .i64 o9)∧W.cell? ⟨XB,10,none⟩=some (.int .i64 o10)∧W.cell? ⟨XB,11,none⟩=some (.int .i64 o11)∧aA we W))
    go_region_held3 (fun W=>W.cell? ⟨XB,0,none⟩=some (.int .i64 o0)∧W.cell? ⟨XB,1,none⟩=some (.int .i64 o1)∧W.cell? ⟨XB,2,none⟩=some (.int .i64 o2)∧W.cell? ⟨XB,3,none⟩=some (.int .i64 o3)∧W.cell? ⟨XB,4,none⟩=some (.int .i64 o4)∧W.cell? ⟨XB,5,none⟩=some (.int .i64 o5)∧W.cell? ⟨XB,6,none⟩=some (.int .i64 o6)∧W.cell? ⟨XB,7,none⟩=some (.string o7)∧W.cell? ⟨XB,8,none⟩=some (.string o8)∧W.cell? ⟨XB,9,none⟩=some (.int .i64 o9)∧W.cell? ⟨XB,10,none⟩=some (.int .i64 o10)∧W.cell? ⟨XB,11,none⟩=some (.int .i64 o11)∧aA we W) (refine HSS.out _ (by repeat (with_reducible first|exact uX _|exact GQ3.out|exact GQ1.out|refine uJ ?_|refine uU ?_ _))) (first|(go_at_call 15;(with_reducible refine(KCL1.out _ (HG6.out.trans b_20)).mono ?_);rintro e w5 ⟨v5,rfl,h5,gq⟩;obtain⟨A5,c5,rfl⟩:=aJ h5;have GQ1:=uZ (show aA we w5 from uY b_20 gq);have HLS:=uZ (show SlO w5 _ l from Rd.of_own h5);clear h5 gq)|(go_at_call 17;(with_reducible refine(KAD1.out _ _ (HG6.out.trans (GQ1.out.trans b_20)) (HLS.out.mono b_20)).mono ?_);rintro e w7 ⟨v7,rfl,h7,gq⟩;have GQ3:=uZ (GQ1.out.trans (uY b_20 gq));obtain⟨A7,c7,hA7,-⟩:=h7.open_;subst hA7;have HO7:=uZ h7;clear h7 gq))
    all_goals go_wp2_with fail
    all_goals go_meet
    all_goals exact aWr HO7.out GQ3.out
   case rest =>
    obtain⟨A4,c4',rfl,rfl,rfl,HL4,GC⟩:=hcut;obtain⟨wK,hwK⟩:∃ wK,wK=wc:=⟨_,rfl⟩
    subst hwK;have HG7:=uZ (HG6.out.trans GC.out);have BX7:=uZ (aD GC.out BX6.out);have HSL:=uZ HL4.out;clear x0 x1 x2 x3 x4 x5 x6 x7 x8 x9 x10 x11 GC HL4 KCL1 KAD1 KAD KCL HG6 BX6;obtain⟨x0,x1,x2,x3,x4,x5,x6,x7,x8,x9,x10,x11⟩:=vS BX7.out;go_wp2_with fail;clear x0 x1 x2 x3 x4 x5 x6 x7 x8 x9 x10 x11;refine(KAR.out HF.out HFO.out _ HG7.out).mono ?_;rintro e wm ⟨vb,rfl,hvb,gd⟩;have HG8:=uZ (HG7.out.trans gd);obtain⟨AB,cb,hAB,-⟩:=hvb.open_;subst hAB;have HC1:=uZ (bEe AR.1 _ _ _ (HSL.out.mono gd) hvb);clear gd hvb HSL HG7 BX7 KAR;obtain⟨m2,i2,e2⟩:=AR;dsimp only at HC1 ⊢;go_wp2_with fail;refine HC1.out.mono ?_;rintro e wn ⟨rfl,gd⟩;have HG9:=uZ (HG8.out.trans gd);clear gd HC1 HG8;dsimp only;go_wp2;go_ret;exact⟨rfl,HG9.out⟩
end Go.Proofs.YtdochkemaiokfaaGreat