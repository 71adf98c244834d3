/- Lemmas on what the functions of the program and of the library compute: Rg4, Rg5, Ru3, PlainAt, Ru8, LUMarks. The conditions stand at each. -/
import Derived.Test.YtdochkemaiokfaaGreatQ39
import Derived.Test.YtdochkemaiokfaaGreatQ38
import Derived.Test.YtdochkemaiokfaaGreatQ40
import Derived.Deep.CutRange
import Derived.Deep.RegionHeld3
import Derived.Test.YtdochkemaiokfaaGreatQ23
import Derived.Test.YtdochkemaiokfaaGreatQ37
import Derived.Test.YtdochkemaiokfaaGreatQ36
import Derived.Test.YtdochkemaiokfaaGreatQ29
import Derived.BigQuiet
import Derived.Test.YtdochkemaiokfaaGreatQ35
import Derived.Test.YtdochkemaiokfaaGreatQ30
import Derived.Test.YtdochkemaiokfaaGreatQ33
import Derived.Test.YtdochkemaiokfaaGreatQ1
import Derived.Test.YtdochkemaiokfaaGreatQ2
import Derived.Test.YtdochkemaiokfaaGreatQ15
import Derived.Test.YtdochkemaiokfaaGreatQ31
import Derived.Test.YtdochkemaiokfaaGreatQ34
import Derived.Test.YtdochkemaiokfaaGreatQ8
import Derived.Test.YtdochkemaiokfaaGreatQ4
import Derived.Test.YtdochkemaiokfaaGreatQ3
import Derived.Test.YtdochkemaiokfaaGreatQ32
import Derived.Test.YtdochkemaiokfaaGreatLULastQ
import Derived.Test.YtdochkemaiokfaaGreatQ16
set_option maxHeartbeats 16000000
set_option maxRecDepth 100000
set_option linter.all false
namespace Go.Proofs.YtdochkemaiokfaaGreat
open Go.RowKit
theorem c_8 {p:Prop} (h:p:=by
 have G2a:=h_231;have G2:=uZ (G2a.out.alloc (.cells [.slice Ar t.roots.length cr,.slice Ab t.brs.length cb].toArray 43));have HG2:=h_226;have HPX:=uZ (aF (a:=w2) (p:=(.cells [.slice Ar t.roots.length cr,.slice Ab t.brs.length cb].toArray 43)) rfl);have HXL:=uZ G2a.out.size;clear Hk;clear r0 b0 a0 a1 a2 a3 a4 a5 a6 a7 a8 a9 a10 a11 q0 q1 z0 z1 HR g2;obtain⟨⟨r0,b0,a0,a1,a2,a3,a4,a5,a6,a7,a8,a9,a10,a11⟩,hR⟩:=HB.out _ G2a.out;obtain⟨q0,q1,z0,z1⟩:=cL hR;have HR:=uZ hR;clear hR;obtain⟨⟨r0y,b0y,a0y,a1y,a2y,a3y,a4y,a5y,a6y,a7y,a8y,a9y,a10y,a11y⟩,hRy⟩:=HB.out _ G2.out;obtain⟨q0y,q1y,z0y,z1y⟩:=cL hRy;have HRy:=uZ hRy;clear hRy;dsimp only;go_wp2_with fail;clear r0 b0 a0 a1 a2 a3 a4 a5 a6 a7 a8 a9 a10 a11 q0 q1 z0 z1 HR;clear r0y b0y a0y a1y a2y a3y a4y a5y a6y a7y a8y a9y a10y a11y q0y q1y z0y z1y HRy;generalize w2.alloc (.cells [.slice Ar t.roots.length cr,.slice Ab t.brs.length cb].toArray 43)=wY at HPX G2 HG2 ⊢;generalize w2.heap.size=X at HPX HXL ⊢;have HWA:=uZ (Array.getElem?_eq_some_iff.1 (HB.out WA (uX _)).2).1;refine(KST.out _ HG2.out).mono ?_;rintro e w3 ⟨rv3,bv3,rfl,ht3,g3⟩;obtain⟨⟨A3,n3,k3,rfl⟩,B3,m3,l3,rfl⟩:=bK ht3;have HT3:=uZ ht3;have HX3:=uZ (uK g3 HPX.out);have G3:=h_232;have HG3:=h_227;clear ht3 g3;obtain⟨⟨r0,b0,a0,a1,a2,a3,a4,a5,a6,a7,a8,a9,a10,a11⟩,hR⟩:=HB.out _ G3.out;obtain⟨q0,q1,z0,z1⟩:=cL hR;have HR:=uZ hR;clear hR;obtain⟨x0,x1,z2,z3⟩:=aQ HX3.out;have e0:¬ w.heap.size+1+1=X:=by have:=HWA.out;have:=HXL.out;omega
 have e1:¬ X=w.heap.size+1+1:=fun h=>e0 h.symm
 dsimp only;by_cases hn0:n=0;rotate_left
 ·have hnb:(n != 0)=true:=by simpa using hn0
  obtain rfl:=HN.out hn0;have hR2:=cG ⟨X,1,none⟩ (.slice B3 m3 l3) (cG ⟨X,0,none⟩ (.slice A3 n3 k3) HR.out e0) e0;clear q0 q1 z0 z1;obtain⟨q0,q1,z0,z1⟩:=cL hR2;have HGS:=uZ ((HG3.out.setCell (p:=⟨X,0,none⟩) (Nat.le_trans GA.out.size HXL.out) (.slice A3 n3 k3)).setCell (p:=⟨X,1,none⟩) (Nat.le_trans GA.out.size HXL.out) (.slice B3 m3 l3));clear hR2;go_wp2_with fail;obtain⟨p0,p1⟩:=aK (v0:=(.slice none 0 0)) (v1:=(.slice none 0 0)) q0 q1;refine bodyPost_ret (v:=.tuple #[.agg #[(.slice none 0 0),(.slice none 0 0)],.int .i64 n]) b_35 rfl ?_;exact bU.none ((yZ HGS.out b_36 _).setCell b_36 _)
 subst hn0;have hR2:=cG ⟨X,1,none⟩ (.slice B3 m3 l3) (cG ⟨X,0,none⟩ (.slice A3 n3 k3) HR.out e0) e0;obtain⟨q0s,q1s,z0s,z1s⟩:=cL hR2;have HRS:=uZ hR2;have hp:=rP (W0:=w) HX3.out ⟨_,_,_,rfl⟩ ⟨_,_,_,rfl⟩ (Nat.le_trans GA.out.size HXL.out) HG3.out HT3.out;have hkk:=heap_setCell_same (w3.setCell ⟨X,0,none⟩ (.slice A3 n3 k3)) X 1 #[.slice A3 n3 k3,.slice Ab t.brs.length cb] 43 (.slice B3 m3 l3) (by have:=heap_setCell_same w3 X 0 #[.slice Ar t.roots.length cr,.slice Ab t.brs.length cb] 43 (.slice A3 n3 k3) HX3.out;simpa using this);have HXS:=uZ (show((w3.setCell ⟨X,0,none⟩ (.slice A3 n3 k3)).setCell ⟨X,1,none⟩ (.slice B3 m3 l3)).heap[X]? = some (.cells #[.slice A3 n3 k3,.slice B3 m3 l3] 43 (0,0)) by simpa using hkk);obtain⟨rS,bS,hXb,hTS,hGS⟩:=hp;have hXe:=HXS.out;rw[hXb] at hXe;obtain⟨rfl,rfl⟩:rS=.slice A3 n3 k3∧bS=.slice B3 m3 l3:=by simpa using hXe
 have HTS:=uZ hTS;have HGS:=uZ hGS;clear hXe hXb hTS hGS hkk hR2;go_wp2_with fail;refine(KR2.out b_46 _ _ _ HTS.out).mono ?_;rintro e w4 ⟨bb,rfl,hbb,g4⟩;have HX4:=uZ (uK g4 HXS.out);have HR4:=uZ (uK g4 HRS.out);have HT4:=uZ (HTS.out.mono g4);have HG4:=uZ (HGS.out.trans g4);have HBB:=uZ hbb;clear r0 b0 a0 a1 a2 a3 a4 a5 a6 a7 a8 a9 a10 a11 q0 q1 z0 z1 HR x0 x1 z2 z3 q0s q1s z0s z1s g4 hbb HN;obtain⟨q0,q1,z0,z1⟩:=cL HR4.out;obtain⟨x0,x1,-,-⟩:=aQ HX4.out;have HR:=HR4;dsimp only;cases bb
 ·obtain rfl:=HL.out b_46 (fun h=>by have:=HBB.out.2 h;cases this)
  go_wp2_with fail;obtain⟨p0,p1⟩:=aK (v0:=(.slice none 0 0)) (v1:=(.slice none 0 0)) q0 q1;refine bodyPost_ret (v:=.tuple #[.agg #[(.slice none 0 0),(.slice none 0 0)],.int .i64 15]) b_35 rfl ?_;exact bU.none ((yZ HG4.out b_36 _).setCell b_36 _)
 ·obtain rfl:=HY.out b_46 (HBB.out.1 rfl)
  go_wp2_with fail;obtain⟨p0,p1⟩:=aK (v0:=(.slice A3 n3 k3)) (v1:=(.slice B3 m3 l3)) q0 q1;refine bodyPost_ret (v:=.tuple #[.agg #[.slice A3 n3 k3,.slice B3 m3 l3],.int .i64 0]) b_35 rfl ?_;exact dM HR4.out b_53 HG4.out HT4.out
):p:=h
def zEa:=Unit
theorem zEa.g {p:Prop} (_:zEa) (h:p:=by
 dsimp only;go_wp2_with fail;obtain⟨p0,p1⟩:=aK (v0:=(.slice none 0 0)) (v1:=(.slice none 0 0)) q0 q1;refine bodyPost_ret (v:=.tuple #[.agg #[(.slice none 0 0),(.slice none 0 0)],.int .i64 1]) b_35 rfl ?_;exact bU.none ((yZ HG2.out b_36 _).setCell b_36 _)
):p:=h
theorem c_38 {p:Prop} (h:p:=by
 have G2:=h_231;have HG2:=h_226;clear r0 b0 a0 a1 a2 a3 a4 a5 a6 a7 a8 a9 a10 a11 q0 q1 z0 z1 HR g2;have nX:zEa:=()
 exact s_10
):p:=h
theorem c_123 {p:Prop} (h:p:=by
 cases bb
 ·exact absurd (hbb.2 HT1.out) b_52
 ·rfl
):p:=h
theorem h_69 {p:Prop} (h:p:=by
 exact uZ (fun(h0:n=0) W rx bx (h:dF W rx bx ST)=>dX ST.roots ST.brs rx bx W h.1 h.2 (hsf h0).1 (hsf h0).2.1 (hsf h0).2.2)
):p:=h
theorem h_139 {p:Prop} (h:p:=by
 exact fun W (hW:aA w W)=>dX t.roots t.brs rv bv W (hr.mono hW) (hv.mono hW) hf hrl hm
):p:=h
theorem h_145 {p:Prop} (h:p:=by
 exact(show(k == 6)=false from by have:=Hk.out;simp only [beq_eq_false_iff_ne];omega)
):p:=h
theorem h_146 {p:Prop} (h:p:=by
 exact(show(k == 1)=false from by have:=Hk.out;simp only [beq_eq_false_iff_ne];omega)
):p:=h
theorem s_43 {p:Prop} (h:p:=by
 unfold Opn.agg;unfold Opn.cells at HBX;dsimp only at HBX kR kF kST hk ⊢;have KR:=uZ kR;have KF:=uZ kF;have KST:=uZ kST;have Hk:=uZ hk;clear kR kF kST hk;have GA:=h_8;have HB:=h_137;clear HBX;go_enter Tryz.func70,Tryz.ntmps70;exact nX.g
):p:=h
def zA3:=Unit
def zDe:=Unit
theorem zDe.g {p:Prop} (_:zDe) (h:p:=by
 dsimp only;go_wp2_with fail;obtain⟨p0,p1⟩:=aK (v0:=(.slice none 0 0)) (v1:=(.slice none 0 0)) q0 q1;refine bodyPost_ret (v:=.tuple #[.agg #[(.slice none 0 0),(.slice none 0 0)],.int .i64 1]) b_35 rfl ?_;exact bU.none ((yZ HG1.out b_36 _).setCell b_36 _)
):p:=h
theorem zA3.g {p:Prop} (_:zA3) (h:p:=by
 refine(KR.out _ GA.out).mono ?_;rintro e w1 ⟨bb,rfl,hbb,g1⟩
 obtain rfl:bb=false:=by
  cases bb
  ·rfl
  ·exact absurd (hbb.1 rfl) HT1.out
 have G1:=uZ g1;have HG1:=h_225;clear hbb g1;have nX:zDe:=()
 exact s_7
):p:=h
def zCg:=Unit
theorem zCg.g {p:Prop} (_:zCg) (h:p:=by
 unfold Opn.agg;unfold Opn.cells at HBX;dsimp only at HBX kR ⊢;have KR:=uZ kR;clear kR;have GA:=h_8;have HB:=h_137;clear HBX;go_enter Tryz.func70,Tryz.ntmps70;have nX:zA3:=()
 exact s_1
):p:=h
theorem aCl (t:Tr) (o:Opn) (rv bv:Value) (w:World) (hr:SlI w rv t.roots) (hv:bQ w bv t.brs) (hf:cF t.brs) (hrl:t.roots.length≤1000000) (hm:∀ i (h:i<t.brs.length),t.brs[i].mark.size≤9223372036854775807) (hT:¬ aM t):Calls Tryz.prog 70 #[.agg #[rv,bv],o.agg] w (bU (⟨[],[]⟩,1) w):=by
 have HTT:=h_160;have kR:=h_139;clear hm;have HT1:=uZ hT;clear hT;have nX:zCg:=()
 exact s_4
def zA4:=Unit
def zDf:=Unit
theorem zDf.g {p:Prop} (_:zDf) (h:p:=by
 dsimp only;go_wp2_with fail;refine(KF.out _).mono ?_;rintro e w2 ⟨rfl,g2⟩;exact c_38
):p:=h
theorem zA4.g {p:Prop} (_:zA4) (h:p:=by
 refine(KR.out _ GA.out).mono ?_;rintro e w1 ⟨bb,rfl,hbb,g1⟩
 obtain rfl:bb=true:=by
  exact c_123
 have G1:=uZ g1;have HG1:=h_225;clear hbb g1;have nX:zDf:=()
 exact s_7
):p:=h
def zCh:=Unit
theorem zCh.g {p:Prop} (_:zCh) (h:p:=by
 unfold Opn.agg;unfold Opn.cells at HBX;dsimp only at HBX kR kF ⊢;have KR:=uZ kR;have KF:=uZ kF;clear kR kF;have GA:=h_8;have HB:=h_137;clear HBX;go_enter Tryz.func70,Tryz.ntmps70;have nX:zA4:=()
 exact s_1
):p:=h
theorem aCk (t:Tr) (o:Opn) (rv bv:Value) (w:World) (hr:SlI w rv t.roots) (hv:bQ w bv t.brs) (hf:cF t.brs) (hrl:t.roots.length≤1000000) (hm:∀ i (h:i<t.brs.length),t.brs[i].mark.size≤9223372036854775807) (hom:o.mark.size≤9223372036854775807) (hT:aM t) (hF:aP o=false):Calls Tryz.prog 70 #[.agg #[rv,bv],o.agg] w (bU (⟨[],[]⟩,1) w):=by
 have HTT:=h_160;have kR:=h_139;have kF:=fun W=>fQ o W hom
 rw[if_neg (by rw[hF];decide)] at kF;clear hm hom hF;have HT1:=uZ hT;clear hT;have nX:zCh:=()
 exact s_4
def zA5:=Unit
def zDg:=Unit
theorem zDg.g {p:Prop} (_:zDg) (h:p:=by
 dsimp only;go_wp2_with fail;refine(KF.out _).mono ?_;rintro e w2 ⟨rfl,g2⟩;have hk6:(k == 6)=true:=by simpa using H6.out
 exact c_38
):p:=h
theorem zA5.g {p:Prop} (_:zA5) (h:p:=by
 refine(KR.out _ GA.out).mono ?_;rintro e w1 ⟨bb,rfl,hbb,g1⟩
 obtain rfl:bb=true:=by
  exact c_123
 have G1:=uZ g1;have HG1:=h_225;clear hbb g1;have nX:zDg:=()
 exact s_7
):p:=h
def zCi:=Unit
theorem zCi.g {p:Prop} (_:zCi) (h:p:=by
 unfold Opn.agg;unfold Opn.cells at HBX;dsimp only at HBX kR kF h6 ⊢;have KR:=uZ kR;have KF:=uZ kF;have H6:=uZ h6;clear kR kF h6;have GA:=h_8;have HB:=h_137;clear HBX;go_enter Tryz.func70,Tryz.ntmps70;have nX:zA5:=()
 exact s_1
):p:=h
theorem aCj (t:Tr) (o:Opn) (rv bv:Value) (w:World) (hr:SlI w rv t.roots) (hv:bQ w bv t.brs) (hf:cF t.brs) (hrl:t.roots.length≤1000000) (hm:∀ i (h:i<t.brs.length),t.brs[i].mark.size≤9223372036854775807) (hom:o.mark.size≤9223372036854775807) (hT:aM t) (hF:aP o=true) (h6:o.kind=6):Calls Tryz.prog 70 #[.agg #[rv,bv],o.agg] w (bU (⟨[],[]⟩,1) w):=by
 have HTT:=h_160;have kR:=h_139;have kF:=fun W=>fQ o W hom
 rw[if_pos hF] at kF;clear hm hom hF;have HT1:=uZ hT;clear hT;have nX:zCi:=()
 exact s_4
def zA6:=Unit
def zDh:=Unit
theorem zDh.g {p:Prop} (_:zDh) (h:p:=by
 dsimp only;go_wp2_with fail;refine(KF.out _).mono ?_;rintro e w2 ⟨rfl,g2⟩;have hk6:=h_145;have hkb1:(k == 1)=true:=by have:=Hk.out;simp only [beq_iff_eq];omega
 exact c_8
):p:=h
theorem zA6.g {p:Prop} (_:zA6) (h:p:=by
 refine(KR.out _ GA.out).mono ?_;rintro e w1 ⟨bb,rfl,hbb,g1⟩
 obtain rfl:bb=true:=by
  exact c_123
 have G1:=uZ g1;have HG1:=h_225;clear hbb g1;have nX:zDh:=()
 exact s_7
):p:=h
def zCj:=Unit
def zG7:=Unit
theorem zG7.g {p:Prop} (_:zG7) (h:p:=by
 have nX:zA6:=()
 exact s_1
):p:=h
theorem zCj.g {p:Prop} (_:zCj) (h:p:=by
 have nX:zG7:=()
 exact s_43
):p:=h
theorem aKr (t:Tr) (o:Opn) (rv bv:Value) (w:World) (hr:SlI w rv t.roots) (hv:bQ w bv t.brs) (hf:cF t.brs) (hrl:t.roots.length≤1000000) (hm:∀ i (h:i<t.brs.length),t.brs[i].mark.size≤9223372036854775807) (hom:o.mark.size≤9223372036854775807) (hT:aM t) (hF:aP o=true) (hk:o.kind=1) (ST:Tr) (n:Int) (hst:aXh t o=(ST,n)) (RES:Tr × Int) (hn:n≠0→RES=(⟨[],[]⟩,n)) (hy:n=0→aM ST→RES=(ST,0)) (hl:n=0→¬ aM ST→RES=(⟨[],[]⟩,15)) (hsf:n=0→cF ST.brs∧ST.roots.length≤1000000∧∀ i (h:i<ST.brs.length),ST.brs[i].mark.size≤9223372036854775807):Calls Tryz.prog 70 #[.agg #[rv,bv],o.agg] w (bU (RES) w):=by
 have HTT:=h_160;have kR:=h_139;have kF:=fun W=>fQ o W hom
 rw[if_pos hF] at kF;have kST:=fun W (hW:aA w W)=>aKo t o rv bv W (hr.mono hW) (hv.mono hW) hf hrl hT
 rw[hst] at kST;have KR2:=h_69;have HN:=uZ hn;have HY:=uZ hy;have HL:=uZ hl;clear hm hom hF hst hn hy hl hsf;have HT1:=uZ hT;clear hT;have nX:zCj:=()
 exact s_4
def zA7:=Unit
def zDi:=Unit
theorem zDi.g {p:Prop} (_:zDi) (h:p:=by
 dsimp only;go_wp2_with fail;refine(KF.out _).mono ?_;rintro e w2 ⟨rfl,g2⟩;have hk6:=h_145;have hkb1:=h_146;have hkb2:(k == 2)=true:=by have:=Hk.out;simp only [beq_iff_eq];omega
 exact c_8
):p:=h
theorem zA7.g {p:Prop} (_:zA7) (h:p:=by
 refine(KR.out _ GA.out).mono ?_;rintro e w1 ⟨bb,rfl,hbb,g1⟩
 obtain rfl:bb=true:=by
  exact c_123
 have G1:=uZ g1;have HG1:=h_225;clear hbb g1;have nX:zDi:=()
 exact s_7
):p:=h
def zCk:=Unit
def zG8:=Unit
theorem zG8.g {p:Prop} (_:zG8) (h:p:=by
 have nX:zA7:=()
 exact s_1
):p:=h
theorem zCk.g {p:Prop} (_:zCk) (h:p:=by
 have nX:zG8:=()
 exact s_43
):p:=h
theorem aKq (t:Tr) (o:Opn) (rv bv:Value) (w:World) (hr:SlI w rv t.roots) (hv:bQ w bv t.brs) (hf:cF t.brs) (hrl:t.roots.length≤1000000) (hm:∀ i (h:i<t.brs.length),t.brs[i].mark.size≤9223372036854775807) (hom:o.mark.size≤9223372036854775807) (hT:aM t) (hF:aP o=true) (hk:o.kind=2) (ST:Tr) (n:Int) (hst:aQu t o=(ST,n)) (RES:Tr × Int) (hn:n≠0→RES=(⟨[],[]⟩,n)) (hy:n=0→aM ST→RES=(ST,0)) (hl:n=0→¬ aM ST→RES=(⟨[],[]⟩,15)) (hsf:n=0→cF ST.brs∧ST.roots.length≤1000000∧∀ i (h:i<ST.brs.length),ST.brs[i].mark.size≤9223372036854775807):Calls Tryz.prog 70 #[.agg #[rv,bv],o.agg] w (bU (RES) w):=by
 have HTT:=h_160;have kR:=h_139;have kF:=fun W=>fQ o W hom
 rw[if_pos hF] at kF;have kST:=fun W (hW:aA w W)=>aUu t o rv bv W (hr.mono hW) (hv.mono hW) hf hrl hT hm
 rw[hst] at kST;have KR2:=h_69;have HN:=uZ hn;have HY:=uZ hy;have HL:=uZ hl;clear hm hom hF hst hn hy hl hsf;have HT1:=uZ hT;clear hT;have nX:zCk:=()
 exact s_4
def zA8:=Unit
def zDj:=Unit
theorem zDj.g {p:Prop} (_:zDj) (h:p:=by
 dsimp only;go_wp2_with fail;refine(KF.out _).mono ?_;rintro e w2 ⟨rfl,g2⟩;have hk6:=h_145;have hkb1:=h_146;have hkb2:(k == 2)=false:=by have:=Hk.out;simp only [beq_eq_false_iff_ne];omega
 have hkb5:(k == 5)=true:=by have:=Hk.out;simp only [beq_iff_eq];omega
 exact c_8
):p:=h
theorem zA8.g {p:Prop} (_:zA8) (h:p:=by
 refine(KR.out _ GA.out).mono ?_;rintro e w1 ⟨bb,rfl,hbb,g1⟩
 obtain rfl:bb=true:=by
  exact c_123
 have G1:=uZ g1;have HG1:=h_225;clear hbb g1;have nX:zDj:=()
 exact s_7
):p:=h
def zCl:=Unit
def zG9:=Unit
theorem zG9.g {p:Prop} (_:zG9) (h:p:=by
 have nX:zA8:=()
 exact s_1
):p:=h
theorem zCl.g {p:Prop} (_:zCl) (h:p:=by
 have nX:zG9:=()
 exact s_43
):p:=h
theorem aKp (t:Tr) (o:Opn) (rv bv:Value) (w:World) (hr:SlI w rv t.roots) (hv:bQ w bv t.brs) (hf:cF t.brs) (hrl:t.roots.length≤1000000) (hm:∀ i (h:i<t.brs.length),t.brs[i].mark.size≤9223372036854775807) (hom:o.mark.size≤9223372036854775807) (hT:aM t) (hF:aP o=true) (hk:o.kind=5) (ST:Tr) (n:Int) (hst:aYv t o=(ST,n)) (RES:Tr × Int) (hn:n≠0→RES=(⟨[],[]⟩,n)) (hy:n=0→aM ST→RES=(ST,0)) (hl:n=0→¬ aM ST→RES=(⟨[],[]⟩,15)) (hsf:n=0→cF ST.brs∧ST.roots.length≤1000000∧∀ i (h:i<ST.brs.length),ST.brs[i].mark.size≤9223372036854775807):Calls Tryz.prog 70 #[.agg #[rv,bv],o.agg] w (bU (RES) w):=by
 have HTT:=h_160;have kR:=h_139;have kF:=fun W=>fQ o W hom
 rw[if_pos hF] at kF;have kST:=fun W (hW:aA w W)=>aKf t o rv bv W (hr.mono hW) (hv.mono hW) hf hrl hT
 rw[hst] at kST;have KR2:=h_69;have HN:=uZ hn;have HY:=uZ hy;have HL:=uZ hl;clear hm hom hF hst hn hy hl hsf;have HT1:=uZ hT;clear hT;have nX:zCl:=()
 exact s_4
def zA9:=Unit
def zDk:=Unit
theorem zDk.g {p:Prop} (_:zDk) (h:p:=by
 dsimp only;go_wp2_with fail;refine(KF.out _).mono ?_;rintro e w2 ⟨rfl,g2⟩;have hk6:=h_145;have hkb1:=h_146;have hkb2:(k == 2)=false:=by have:=Hk.out;simp only [beq_eq_false_iff_ne];omega
 have hkb5:(k == 5)=false:=by have:=Hk.out;simp only [beq_eq_false_iff_ne];omega
 exact c_8
):p:=h
theorem zA9.g {p:Prop} (_:zA9) (h:p:=by
 refine(KR.out _ GA.out).mono ?_;rintro e w1 ⟨bb,rfl,hbb,g1⟩
 obtain rfl:bb=true:=by
  exact c_123
 have G1:=uZ g1;have HG1:=h_225;clear hbb g1;have nX:zDk:=()
 exact s_7
):p:=h
def zCm:=Unit
def zHa:=Unit
theorem zHa.g {p:Prop} (_:zHa) (h:p:=by
 have nX:zA9:=()
 exact s_1
):p:=h
theorem zCm.g {p:Prop} (_:zCm) (h:p:=by
 have nX:zHa:=()
 exact s_43
):p:=h
theorem zO (t:Tr) (o:Opn) (rv bv:Value) (w:World) (hr:SlI w rv t.roots) (hv:bQ w bv t.brs) (hf:cF t.brs) (hrl:t.roots.length≤1000000) (hm:∀ i (h:i<t.brs.length),t.brs[i].mark.size≤9223372036854775807) (hom:o.mark.size≤9223372036854775807) (hT:aM t) (hF:aP o=true) (hk:o.kind=3∨o.kind=4) (ST:Tr) (n:Int) (hst:aXf t o=(ST,n)) (RES:Tr × Int) (hn:n≠0→RES=(⟨[],[]⟩,n)) (hy:n=0→aM ST→RES=(ST,0)) (hl:n=0→¬ aM ST→RES=(⟨[],[]⟩,15)) (hsf:n=0→cF ST.brs∧ST.roots.length≤1000000∧∀ i (h:i<ST.brs.length),ST.brs[i].mark.size≤9223372036854775807):Calls Tryz.prog 70 #[.agg #[rv,bv],o.agg] w (bU (RES) w):=by
 have HTT:=h_160;have kR:=h_139;have kF:=fun W=>fQ o W hom
 rw[if_pos hF] at kF;have kST:=fun W (hW:aA w W)=>aPw t o rv bv W (hr.mono hW) (hv.mono hW) hf hrl hT
 rw[hst] at kST;have KR2:=h_69;have HN:=uZ hn;have HY:=uZ hy;have HL:=uZ hl;clear hm hom hF hst hn hy hl hsf;have HT1:=uZ hT;clear hT;have nX:zCm:=()
 exact s_4
theorem aJr {t:Tr} (hs:bG t):cF t.brs∧t.roots.length≤1000000:=by
 exact c_99
theorem aPz (t:Tr) (o:Opn) (rv bv:Value) (w:World) (hr:SlI w rv t.roots) (hv:bQ w bv t.brs) (hf:cF t.brs) (hrl:t.roots.length≤1000000) (hm:∀ b∈t.brs,b.mark.size≤100) (hom:o.mark.size≤100) :
  Calls Tryz.prog 70 #[.agg #[rv,bv],o.agg] w (bU (aT t o) w):=by
 have hm1:∀ i (h:i<t.brs.length),t.brs[i].mark.size≤9223372036854775807:=fun i h=>Nat.le_trans (hm _ (List.getElem_mem h)) b_52
 have hom1:o.mark.size≤9223372036854775807:=Nat.le_trans hom b_52;by_cases hT:aM t;rotate_left
 ·have:aT t o=(⟨[],[]⟩,1):=by
   unfold aT;rw[if_pos (.inl hT)]
  rw[this];exact aCl t o rv bv w hr hv hf hrl hm1 hT
 cases hF:aP o with
 | false =>
  have:aT t o=(⟨[],[]⟩,1):=by
   unfold aT;rw[if_pos (.inr (.inl hF))]
  rw[this];exact aCk t o rv bv w hr hv hf hrl hm1 hom1 hT hF
 | true =>
  by_cases h6:o.kind=6
  ·have:aT t o=(⟨[],[]⟩,1):=by
    unfold aT;rw[if_pos (.inr (.inr h6))]
   rw[this];exact aCj t o rv bv w hr hv hf hrl hm1 hom1 hT hF h6
  ·have hst:=aPi (t:=t) hF h6
   obtain⟨ST,n,hSn⟩:∃ ST n,(ST,n)=aPj t o:=⟨_,_,rfl⟩
   have hno:¬ (¬ aM t∨aP o=false∨o.kind=6):=by
    rintro (h|h|h)
    ·exact h hT
    ·rw[hF] at h
     cases h
    ·exact h6 h
   have hsplit:(cW t o≠0→n=cW t o)∧(cW t o=0→n=0∧ST=oG t o):=by
    refine⟨fun h=>?_,fun h=>?_⟩
    ·rw[hst,if_neg h] at hSn
     exact(Prod.mk.inj hSn).2
    ·rw[hst,if_pos h] at hSn
     exact⟨(Prod.mk.inj hSn).2,(Prod.mk.inj hSn).1⟩
   have h0:n=0→cW t o=0:=fun h=>Classical.byContradiction fun h2=>h2 (by rw[← hsplit.1 h2];exact h)
   have hn:n≠0→aT t o=(⟨[],[]⟩,n):=fun h=>by
    have hf0:cW t o≠0:=fun h2=>h (hsplit.2 h2).1
    unfold aT;rw[if_neg hno,if_pos hf0,hsplit.1 hf0]
   have hy:n=0→aM ST→aT t o=(ST,0):=fun h h2=>by
    have hf0:=h0 h;rw[(hsplit.2 hf0).2] at h2 ⊢;unfold aT;rw[if_neg hno,if_neg (fun k=>k hf0),if_pos h2]
   have hl:n=0→¬ aM ST→aT t o=(⟨[],[]⟩,15):=fun h h2=>by
    have hf0:=h0 h;rw[(hsplit.2 hf0).2] at h2;unfold aT;rw[if_neg hno,if_neg (fun k=>k hf0),if_neg h2]
   have hsf:n=0→cF ST.brs∧ST.roots.length≤1000000∧∀ i (h:i<ST.brs.length),ST.brs[i].mark.size≤9223372036854775807:=fun h=>by
    have hf0:=h0 h;rw[(hsplit.2 hf0).2];have hs:=aJr (qF (bL hT) hF h6 hf0);exact⟨hs.1,hs.2,aQv (aHm (n:=100) hm hom) b_52⟩
   unfold aPj at hSn;rcases aMd hF h6 with h|h|h|h|h
   ·rw[if_pos h] at hSn
    exact aKr t o rv bv w hr hv hf hrl hm1 hom1 hT hF h ST n hSn.symm _ hn hy hl hsf
   ·rw[if_neg b_53,if_pos h] at hSn
    exact aKq t o rv bv w hr hv hf hrl hm1 hom1 hT hF h ST n hSn.symm _ hn hy hl hsf
   ·rw[if_neg b_53,if_neg b_53,if_neg b_53] at hSn
    exact zO t o rv bv w hr hv hf hrl hm1 hom1 hT hF (.inl h) ST n hSn.symm _ hn hy hl hsf
   ·rw[if_neg b_53,if_neg b_53,if_neg b_53] at hSn
    exact zO t o rv bv w hr hv hf hrl hm1 hom1 hT hF (.inr h) ST n hSn.symm _ hn hy hl hsf
   ·rw[if_neg b_53,if_neg b_53,if_pos h] at hSn
    exact aKp t o rv bv w hr hv hf hrl hm1 hom1 hT hF h ST n hSn.symm _ hn hy hl hsf
def aIz (l:List Opn) (k:Nat):List (Int × Opn):=((vJ l).take k).filter fun p=>cE l p.2
theorem aZw (l:List Opn) (k:Nat) (h:k<(vJ l).length):(vJ l)[k]=((k:Int),l[k]'(by rw[qI] at h;exact h)):=by simp[vJ]
theorem aEx (l:List Opn):aIz l l.length=cN l:=by
 unfold aIz;rw[fU,List.take_of_length_le (by rw[qI];omega)]
theorem lV (l:List Opn) (k:Nat) (h:k<l.length):aIz l (k+1)=if cE l l[k]=true then aIz l k++[((k:Int),l[k])] else aIz l k:=by
 unfold aIz;rw[List.take_succ_eq_append_getElem (by rw[qI];exact h),List.filter_append,aZw,List.filter_cons,List.filter_nil];split
 ·rfl
 ·rw[List.append_nil]
theorem aQd (l:List Opn) (k:Nat):∃ r,cN l=aIz l k++r:=⟨((vJ l).drop k).filter fun p=>cE l p.2,by
 rw[fU];unfold aIz
 rw[← List.filter_append,List.take_append_drop]⟩
structure RpP (l:List Opn) (k:Nat) (t:Tr):Prop where
 rep:bI (aIz l k) ⟨[],[]⟩=(t,-1,0)
 few:aBl t
 mark:∀ b∈t.brs,b.mark.size≤100
theorem RpP.start (l:List Opn):RpP l 0 ⟨[],[]⟩:=⟨rfl,tF,fun b h=>by cases h⟩
theorem RpP.skip {l:List Opn} {k:Nat} {t:Tr} (h:RpP l k t) (hk:k<l.length) (hc:cE l l[k]=false):RpP l (k+1) t:=by
 refine⟨?_,h.few,h.mark⟩;rw[lV l k hk,hc,if_neg b_52];exact h.rep
theorem aDz {t:Tr} {o:Opn} (h:(aT t o).2=0):aM (aT t o).1∧(aT t o).1=oG t o:=by
 unfold aT at h ⊢;split at h
 ·exact absurd (show(1:Int)=0 from h) b_52
 ·split at h
  ·rename_i h1 h2
   exact absurd h h2
  ·rename_i h1 h2
   rw[if_neg h1,if_neg h2];split at h
   ·rename_i h3
    rw[if_pos h3];exact⟨h3,rfl⟩
   ·exact absurd (show(15:Int)=0 from h) b_52
theorem RpP.next {l:List Opn} {k:Nat} {t:Tr} (h:RpP l k t) (hk:k<l.length) (hc:cE l l[k]=true) (hm:l[k].mark.size≤100) (ha:(aT t l[k]).2=0):RpP l (k+1) (aT t l[k]).1:=by
 have hr:=aDz ha;refine⟨?_,oJ hr.1,?_⟩
 ·rw[lV l k hk,hc,if_pos rfl,kQ (by rw[h.rep]),h.rep]
  dsimp only;rw[if_pos ha]
 ·rw[hr.2]
  exact aVg (P:=fun _ m=>m.size≤100) h.mark (fun _=>hm) (fun _ _ _ _ _=>hm)
theorem RpP.stop {l:List Opn} {k:Nat} {t:Tr} (h:RpP l k t) (hk:k<l.length) (hc:cE l l[k]=true) (ha:(aT t l[k]).2≠0):aG l=(⟨[],[]⟩,(k:Int),(aT t l[k]).2):=by
 obtain⟨r,hr⟩:=aQd l (k+1)
 have h1:bI (aIz l (k+1)) ⟨[],[]⟩=(⟨[],[]⟩,(k:Int),(aT t l[k]).2):=by
  rw[lV l k hk,hc,if_pos rfl,kQ (by rw[h.rep]),h.rep];dsimp only;rw[if_neg ha]
 unfold aG;rw[hr,oD (by rw[h1];exact ha),h1]
theorem RpP.done {l:List Opn} {t:Tr} (h:RpP l l.length t):aG l=(t,-1,0):=by
 unfold aG;rw[← aEx];exact h.rep
structure RpR (w:World) (t:Tr) (W:World):Prop where
 g:aA w W
 res:W.heap[w.heap.size]? = some (.cells #[.slice none 0 0,.slice none 0 0] 43 (0,0))
 tr:∃ A c B d,W.heap[w.heap.size+1]? = some (.cells #[.slice A t.roots.length c,.slice B t.brs.length d] 43 (0,0))∧dF W (.slice A t.roots.length c) (.slice B t.brs.length d) t
theorem RpR.grew {w W W':World} {t:Tr} (h:RpR w t W) (g:aA W W'):RpR w t W':=by
 obtain⟨A,c,B,d,k1,k2⟩:=h.tr;exact⟨h.g.trans g,aD g h.res,A,c,B,d,aD g k1,k2.mono g⟩
theorem RpR.put {w W:World} {t t':Tr} (h:RpR w t W) {A B:Option Addr} {c d:Nat} (ht:dF W (.slice A t'.roots.length c) (.slice B t'.brs.length d) t'):RpR w t' ((W.setCell ⟨w.heap.size+1,0,none⟩ (.slice A t'.roots.length c)).setCell ⟨w.heap.size+1,1,none⟩ (.slice B t'.brs.length d)):=by
 obtain⟨A0,c0,B0,d0,k1,-⟩:=h.tr;have hX:jV W (w.heap.size+1):=cH k1 b_54;have k2:=heap_setCell_same W (w.heap.size+1) 0 _ _ (.slice A t'.roots.length c) k1;have hX2:jV (W.setCell ⟨w.heap.size+1,0,none⟩ (.slice A t'.roots.length c)) (w.heap.size+1):=cH k2 b_54;refine⟨(h.g.setCell (p:=⟨w.heap.size+1,0,none⟩) b_38 _).setCell (p:=⟨w.heap.size+1,1,none⟩) b_38 _,?_,A,c,B,d,aTa k1 _ _,(ht.turn (dB.set hX _ _)).turn (dB.set hX2 _ _)⟩;rw[Below.heap_setCell _ _ _ _ (by show w.heap.size≠w.heap.size+1;omega),Below.heap_setCell _ _ _ _ (by show w.heap.size≠w.heap.size+1;omega)];exact h.res
theorem RpR.start (w:World):RpR w ⟨[],[]⟩ ((w.alloc (.cells #[.slice none 0 0,.slice none 0 0] 43)).alloc (.cells #[.slice none 0 0,.slice none 0 0] 43)) where
 g:=((uX w).alloc _).alloc _
 res:=aD ((uX _).alloc _) (aO w _)
 tr:=⟨none,0,none,0,(by have:=aO (w.alloc (.cells #[.slice none 0 0,.slice none 0 0] 43)) (.cells #[.slice none 0 0,.slice none 0 0] 43);rw[World.size_alloc] at this;exact this),iG _⟩
theorem RpR.fin {w W:World} {t:Tr} (h:RpR w t W) {a b:Value} (ha:(∀ q n,a≠.int q n)∧∀ s,a≠.string s) {t':Tr} (ht:dF W a b t'):((W.setCell ⟨w.heap.size,0,none⟩ a).setCell ⟨w.heap.size,1,none⟩ b).cell? ⟨w.heap.size,0,none⟩=some a∧((W.setCell ⟨w.heap.size,0,none⟩ a).setCell ⟨w.heap.size,1,none⟩ b).cell? ⟨w.heap.size,1,none⟩=some b∧dF ((W.setCell ⟨w.heap.size,0,none⟩ a).setCell ⟨w.heap.size,1,none⟩ b) a b t'∧aA w ((W.setCell ⟨w.heap.size,0,none⟩ a).setCell ⟨w.heap.size,1,none⟩ b):=by
 have hX:jV W w.heap.size:=cH h.res b_54;have k2:=heap_setCell_same W w.heap.size 0 _ _ a h.res;have hX2:=h_140;have h2:=aTa h.res a b;exact⟨aC h2 rfl,aC h2 rfl,(ht.turn (dB.set hX _ _)).turn (dB.set hX2 _ _),(h.g.setCell (p:=⟨w.heap.size,0,none⟩) (Nat.le_refl _) _).setCell (p:=⟨w.heap.size,1,none⟩) (Nat.le_refl _) _⟩
theorem sO (l:List Opn) (hm:∀ o∈l,o.mark.size≤100) (hlen:l.length≤1000000) (lv:Value) (w:World) (hv:SlO w lv l):Calls Tryz.prog 48 #[lv] w (rH (aG l) w):=by
 have KC:=uZ (fun i (hi:i<l.length) W (g:aA w W)=>sQ l i hi hlen lv W (hv.mono g));have KA:=uZ (fun i (hi:i<l.length) t (ht:aBl t) (hmk:∀ b∈t.brs,b.mark.size≤100) rv bv W (h:dF W rv bv t)=>aPz t l[i] rv bv W h.1 h.2 ht.1 ht.2 hmk (hm _ (List.getElem_mem hi)));have HMK:=uZ (fun i (hi:i<l.length)=>hm _ (List.getElem_mem hi));obtain⟨A,c,rfl,hlc,hcap,hr⟩:=hv.open_;unfold maxLen at hcap;have HR:=uZ hr;have HN:=uZ hlen;have HS:=uZ (fun t k (h:RpP l k t) (hk:k<l.length)=>RpP.stop h hk);have HD:=uZ (fun t (h:RpP l l.length t)=>RpP.done h);generalize aG l=RES at HS HD ⊢;have HST:=uZ (RpR.start w);clear hv hr hm hlen;go_enter Tryz.func48,Tryz.ntmps48;go_wp2;go_loopg [6] l.length (fun gg s6 wr=>∃ kk:Nat,kk≤l.length∧l.length-kk≤gg∧s6=.int .i64 kk∧Aside (∃ t,RpP l kk t∧RpR w t wr))
 case atStart=>exact⟨0,Nat.zero_le _,by omega,rfl,(show Aside _ from⟨_,RpP.start l,HST.out⟩)⟩
 case round =>
  obtain⟨kk,hkk,hgk,rfl,OW⟩:=hrel;obtain⟨t,hp,hb⟩:=OW.out;have HP:=uZ hp;have HB:=uZ hb;have hN:=HN.out;clear OW hp hb HST;by_cases hlt:kk<l.length
  case neg =>
   have hltz:=h_197;obtain rfl:kk=l.length:=by omega
   have hres:=HD.out t HP.out;subst hres;obtain⟨A1,c1,A2,c2,k1,k2⟩:=HB.out.tr;have HF:=uZ (HB.out.fin (a:=.slice A1 t.roots.length c1) (b:=.slice A2 t.brs.length c2) b_54 k2);have t0:wr.cell? ⟨w.heap.size+1,0,none⟩=some (.slice A1 t.roots.length c1):=aC k1 rfl;have t1:wr.cell? ⟨w.heap.size+1,1,none⟩=some (.slice A2 t.brs.length c2):=aC k1 rfl;have r0:wr.cell? ⟨w.heap.size,0,none⟩=some (.slice none 0 0):=aC HB.out.res rfl;have r1:wr.cell? ⟨w.heap.size,1,none⟩=some (.slice none 0 0):=aC HB.out.res rfl;have z0:wr.frozen? ⟨w.heap.size,0,none⟩=false:=aS HB.out.res;have z1:wr.frozen? ⟨w.heap.size,1,none⟩=false:=aS HB.out.res;clear k1 k2;go_wp2;obtain⟨q0,q1,qt,qg⟩:=HF.out;refine bodyPost_ret (v:=.tuple #[.agg #[.slice A1 t.roots.length c1,.slice A2 t.brs.length c2],.int .i64 (-1),.int .i64 0]) (by simp[results,Tryz.results48,go_sem,q0,q1]) rfl ?_;exact⟨_,_,rfl,qt,qg⟩
  case pos =>
   have hltz:=h_201;have h0z:=h_214;have KC1:=uZ (KC.out kk hlt _ HB.out.g);have HSK:=uZ (RpP.skip HP.out hlt);have HNX:=uZ (fun h=>RpP.next HP.out hlt h (HMK.out kk hlt));have HSP:=uZ (HS.out t kk HP.out hlt);have KA1:=uZ (KA.out kk hlt t HP.out.few HP.out.mark);obtain⟨b,off,rfl,hbb,hcell⟩:=HR.out b_53;have HCE:=h_204;clear hcell KC KA HMK;generalize cE l l[kk]=cb at KC1 HSK HNX HSP;generalize hAP:aT t l[kk]=AP at HNX HSP KA1;clear hAP;generalize l[kk]=y at HCE KA1;obtain⟨o0,o1,o2,o3,o4,o5,o6,o7,o8,o9,o10,o11⟩:=y;obtain⟨U,n0⟩:=AP;unfold Opn.agg at KA1;unfold bU at KA1;dsimp only at HCE KA1 HNX HSP;go_wp2_with fail;refine KC1.out.mono ?_;rintro e w1 ⟨rfl,g1⟩;have HB1:=uZ (HB.out.grew g1);clear g1 HB KC1;dsimp only;cases cb
   case false =>
    have HP1:=uZ (HSK.out rfl);clear HSK HNX HSP KA1;go_wp2;go_roundg (l.length-(kk+1))
    case measure=>omega
    case rel=>exact⟨kk+1,by omega,by omega,by go_num,(show Aside _ from⟨t,HP1.out,HB1.out⟩)⟩
   case true =>
    have HNX1:=uZ (HNX.out rfl);have HSP1:=uZ (HSP.out rfl);clear HSK HNX HSP;obtain⟨A1,c1,A2,c2,k1,k2⟩:=HB1.out.tr;have HTR:=uZ k2;have HGW:=uZ HB1.out.g;have t0:w1.cell? ⟨w.heap.size+1,0,none⟩=some (.slice A1 t.roots.length c1):=aC k1 rfl;have t1:w1.cell? ⟨w.heap.size+1,1,none⟩=some (.slice A2 t.brs.length c2):=aC k1 rfl;obtain⟨d0,d1,d2,d3,d4,d5,d6,d7,d8,d9,d10,d11⟩:=HCE.out w1 HGW.out;have HSS:=uZ (fun W (g:aA w1 W)=>(⟨uQ g t0,uQ g t1,uQ g d0,uQ g d1,uQ g d2,uQ g d3,uQ g d4,uQ g d5,uQ g d6,uQ g d7,uQ g d8,uQ g d9,uQ g d10,uQ g d11,g⟩:W.cell? ⟨w.heap.size+1,0,none⟩=some (.slice A1 t.roots.length c1)∧W.cell? ⟨w.heap.size+1,1,none⟩=some (.slice A2 t.brs.length c2)∧W.cell? ⟨b,off+kk*12,none⟩=some (.int .i64 o0)∧W.cell? ⟨b,off+kk*12+1,none⟩=some (.int .i64 o1)∧W.cell? ⟨b,off+kk*12+2,none⟩=some (.int .i64 o2)∧W.cell? ⟨b,off+kk*12+3,none⟩=some (.int .i64 o3)∧W.cell? ⟨b,off+kk*12+4,none⟩=some (.int .i64 o4)∧W.cell? ⟨b,off+kk*12+5,none⟩=some (.int .i64 o5)∧W.cell? ⟨b,off+kk*12+6,none⟩=some (.int .i64 o6)∧W.cell? ⟨b,off+kk*12+7,none⟩=some (.string o7)∧W.cell? ⟨b,off+kk*12+8,none⟩=some (.string o8)∧W.cell? ⟨b,off+kk*12+9,none⟩=some (.int .i64 o9)∧W.cell? ⟨b,off+kk*12+10,none⟩=some (.int .i64 o10)∧W.cell? ⟨b,off+kk*12+11,none⟩=some (.int .i64 o11)∧aA w1 W));clear k1 k2;go_wp2_with fail;go_cut [7,8] from 19 to 27 (fun s7 s8 wx=>aSr w1 (U,n0) s7 s8 wx)
    case first =>
     go_region_held3 (fun W=>W.cell? ⟨w.heap.size+1,0,none⟩=some (.slice A1 t.roots.length c1)∧W.cell? ⟨w.heap.size+1,1,none⟩=some (.slice A2 t.brs.length c2)∧W.cell? ⟨b,off+kk*12,none⟩=some (.int .i64 o0)∧W.cell? ⟨b,off+kk*12+1,none⟩=some (.int .i64 o1)∧W.cell? ⟨b,off+kk*12+2,none⟩=some (.int .i64 o2)∧W.cell? ⟨b,off+kk*12+3,none⟩=some (.int .i64 o3)∧W.cell? ⟨b,off+kk*12+4,none⟩=some (.int .i64 o4)∧W.cell? ⟨b,off+kk*12+5,none⟩=some (.int .i64 o5)∧W.cell? ⟨b,off+kk*12+6,none⟩=some (.int .i64 o6)∧W.cell? ⟨b,off+kk*12+7,none⟩=some (.string o7)∧W.cell? ⟨b,off+kk*12+8,none⟩=some (.string o8)∧W.cell? ⟨b,off+kk*12+9,none⟩=some (.int .i64 o9)∧W.cell? ⟨b,off+kk*12+10,none⟩=some (.int .i64 o10)∧W.cell? ⟨b,off+kk*12+11,none⟩=some (.int .i64 o11)∧aA w1 W) (refine HSS.out _ b_3) (first|(go_at_call 70;with_reducible refine(KA1.out _ _ _ (HTR.out.mono b_20)).mono ?_;rintro e w2 ⟨rv2,bv2,rfl,ht2,gq⟩;have GZ:=uZ (show aA w1 w2 from uY b_20 gq);obtain⟨B1,l1,hB1,-⟩:=SlI.open_ (v:=rv2) (l:=U.roots) (aEr ht2);subst hB1;obtain⟨B2,l2,hB2,-⟩:=bQ.open_ (v:=bv2) (l:=U.brs) (oR ht2);subst hB2;have HT2:=uZ ht2;(try (have hdr:aA (w1.alloc (.cells [.slice none 0 0,.slice none 0 0].toArray 43)).drew w2:=b_44;have BX:=uZ (aD (uY (uX _).drew hdr) (aO w1 (.cells [.slice none 0 0,.slice none 0 0].toArray 43)))));(try (have hdr:aA (w1.alloc (.cells [.slice none 0 0,.slice none 0 0].toArray 43)) w2:=b_44;have BX:=uZ (aD hdr (aO w1 (.cells [.slice none 0 0,.slice none 0 0].toArray 43)))));(try (have q0:w2.cell? ⟨w1.heap.size,0,none⟩=some (.slice none 0 0):=aC BX.out rfl;have q1:w2.cell? ⟨w1.heap.size,1,none⟩=some (.slice none 0 0):=aC BX.out rfl;have z0:w2.frozen? ⟨w1.heap.size,0,none⟩=false:=aS BX.out;have z1:w2.frozen? ⟨w1.heap.size,1,none⟩=false:=aS BX.out));clear ht2 gq))
     all_goals go_wp2_with fail
     all_goals go_meet
     all_goals first|exact aGf GZ.out HT2.out|exact aOf BX.out (Nat.le_refl _) GZ.out HT2.out
    case rest =>
     obtain⟨X,rvU,bvU,rfl,rfl,x0,x1,hTU,hgU⟩:=hcut;generalize hwE:wc=wE at *;obtain⟨RA,ra,hRA,-⟩:=SlI.open_ (v:=rvU) (l:=U.roots) (aEr hTU);subst hRA;obtain⟨RB,rb,hRB,-⟩:=bQ.open_ (v:=bvU) (l:=U.brs) (oR hTU);subst hRB;have HB2:=uZ (HB1.out.grew hgU);have HTU:=uZ hTU;clear t0 t1 d0 d1 d2 d3 d4 d5 d6 d7 d8 d9 d10 d11 hgU hTU HSS HB1 HTR HGW KA1 hwE;by_cases hn:n0=0
     case neg =>
      have hbn:=h_212;have hres:=HSP1.out hn;subst hres;have r0:wE.cell? ⟨w.heap.size,0,none⟩=some (.slice none 0 0):=aC HB2.out.res rfl;have r1:wE.cell? ⟨w.heap.size,1,none⟩=some (.slice none 0 0):=aC HB2.out.res rfl;have z0:wE.frozen? ⟨w.heap.size,0,none⟩=false:=aS HB2.out.res;have z1:wE.frozen? ⟨w.heap.size,1,none⟩=false:=aS HB2.out.res;have HF:=uZ (HB2.out.fin (a:=.slice none 0 0) (b:=.slice none 0 0) b_54 (iG _));clear hn;go_wp2;obtain⟨q0,q1,qt,qg⟩:=HF.out;refine bodyPost_ret (v:=.tuple #[.agg #[.slice none 0 0,.slice none 0 0],.int .i64 kk,.int .i64 n0]) (by simp[results,Tryz.results48,go_sem,q0,q1]) rfl ?_;exact⟨_,_,rfl,qt,qg⟩
     case pos =>
      subst hn;have hbn:=h_218;have HPN:=uZ (HNX1.out rfl);obtain⟨A3,c3,A4,c4,k1,-⟩:=HB2.out.tr;have HPUT:=uZ (HB2.out.put HTU.out);have t0:wE.cell? ⟨w.heap.size+1,0,none⟩=some (.slice A3 t.roots.length c3):=aC k1 rfl;have t1:wE.cell? ⟨w.heap.size+1,1,none⟩=some (.slice A4 t.brs.length c4):=aC k1 rfl;have z0:wE.frozen? ⟨w.heap.size+1,0,none⟩=false:=aS k1;have z1:wE.frozen? ⟨w.heap.size+1,1,none⟩=false:=aS k1;clear k1 HNX1 HSP1;go_wp2;go_roundg (l.length-(kk+1))
      case measure=>omega
      case rel=>exact⟨kk+1,by omega,by omega,by go_num,(show Aside _ from⟨U,HPN.out,HPUT.out⟩)⟩
noncomputable def bBp (l:List Opn) (o:Opn):Int × Int:=((aG (l++[o])).2.1,if (aG (l++[o])).2.2≠0∧o.kind=6 then 20 else(aG (l++[o])).2.2)
theorem aSh {l:List Opn} {o:Opn} (h:eX l o=0):mB l o=false:=(nC h).2.2.1
theorem aWq {l:List Opn} (hA:gD l) {o:Opn} (h:eX l o=0):(bF l (aG l).1 o).2=bBp l o:=by
 unfold bF bBp;rw[if_neg (fun k=>k h)];by_cases h6:o.kind=6
 ·rw[if_pos h6]
  by_cases h0:(aG (l++[o])).2.2=0
  ·have h2:(aG (l++[o])).2=(-1,0):=jH _ _ h0
   rw[if_neg (fun k=>k h0),if_neg (fun k=>k.1 h0),h2]
  ·rw[if_pos h0,if_pos ⟨h0,h6⟩]
 ·have hc:=qM (tO hA) (aSh h) h6
  have ht:=yG hA
  have hr:aG (l++[o])=if (aT (aG l).1 o).2=0 then((aT (aG l).1 o).1,-1,0) else(⟨[],[]⟩,(l.length:Int),(aT (aG l).1 o).2):=by
   unfold aG
   rw[hc,kQ (show(bI (cN l) ⟨[],[]⟩).2.2=0 from by
    have:=ht;unfold aG at this
    rw[this])]
  rw[if_neg h6,hr];by_cases ha:(aT (aG l).1 o).2=0
  ·rw[if_pos ha,if_neg (fun k=>k ha),if_neg (fun k=>h6 k.2)]
  ·rw[if_neg ha,if_pos ha,if_neg (fun k=>h6 k.2)]
theorem aSg {l:List Opn} (hA:gD l) (o:Opn):(bF l (aG l).1 o).2=if eX l o≠0 then(-1,eX l o) else bBp l o:=by
 by_cases h:eX l o=0
 ·rw[if_neg (fun k=>k h)]
  exact aWq hA h
 ·rw[if_pos h]
  unfold bF;rw[if_pos h]
theorem aIm {l:List Opn} {k:Nat} (h:k<l.length) (hA:gD (l.take k)) (he:(bF (l.take k) (aG (l.take k)).1 l[k]).2.2=0):gD (l.take (k+1)):=by
 rw[List.take_succ_eq_append_getElem h];exact .snoc hA he
theorem vF:∀(a pre b:List Opn),gD (pre++a)→gB pre (a++b) (aG pre).1=gB (pre++a) b (aG (pre++a)).1
 | [],pre,b,_=>by rw[List.nil_append,List.append_nil]
 | x::a,pre,b,h=>by
  have e:pre++x::a=(pre++[x])++a:=by simp
  rw[e] at h ⊢;have h1:=yH _ (pre++[x]) a rfl h;obtain⟨h2,h3⟩:=aEb h1;rw[List.cons_append,gB,if_pos h3,yI h2 h3];exact vF a (pre++[x]) b h
theorem aIl {l:List Opn} {k:Nat} (h:k<l.length) (hA:gD (l.take k)) (he:(bF (l.take k) (aG (l.take k)).1 l[k]).2.2≠0):(cS l).2=((k:Int),(bF (l.take k) (aG (l.take k)).1 l[k]).2.2):=by
 have h1:=vF (l.take k) [] (l.drop k) (by rw[List.nil_append];exact hA);rw[List.take_append_drop,List.nil_append] at h1;rw[show cS l=gB [] l (aG []).1 from rfl,h1,List.drop_eq_getElem_cons h,gB,if_neg he,List.length_take,Nat.min_eq_left b_53]
theorem c_112 {p:Prop} (h:p:=by
 go_wp2;go_quiet (fail);go_wp2;go_meet;exact⟨rfl,(show Aside _ from(uX w1).drewN _)⟩
):p:=h
theorem h_2 {p:Prop} (h:p:=by
 exact uZ (fun W (g:aA w2 W)=>(⟨uQ g x0,uQ g x1,uQ g x2,uQ g x3,uQ g x4,uQ g x5,uQ g x6,uQ g x7,uQ g x8,uQ g x9,uQ g x10,uQ g x11,g⟩:W.cell? ⟨XB,0,none⟩=some (.int .i64 o0)∧W.cell? ⟨XB,1,none⟩=some (.int .i64 o1)∧W.cell? ⟨XB,2,none⟩=some (.int .i64 o2)∧W.cell? ⟨XB,3,none⟩=some (.int .i64 o3)∧W.cell? ⟨XB,4,none⟩=some (.int .i64 o4)∧W.cell? ⟨XB,5,none⟩=some (.int .i64 o5)∧W.cell? ⟨XB,6,none⟩=some (.int .i64 o6)∧W.cell? ⟨XB,7,none⟩=some (.string o7)∧W.cell? ⟨XB,8,none⟩=some (.string o8)∧W.cell? ⟨XB,9,none⟩=some (.int .i64 o9)∧W.cell? ⟨XB,10,none⟩=some (.int .i64 o10)∧W.cell? ⟨XB,11,none⟩=some (.int .i64 o11)∧aA w2 W))
):p:=h
def bBh (R:Int × Int) (W0:World) (s8 s9:Value) (wx:World):Prop:=s8=.int .i64 R.1∧s9=.int .i64 R.2∧aA W0 wx
theorem aVc {w:World} {base:Nat} {e:TypeId} {k:Nat} {v:Value} {n:Nat} {xs:List Value} (h:w.ownsRow base e k v n xs) {r:Nat} {cs:Array Value} {t:TypeId} {fr:Nat × Nat} (hr:w.heap[r]? = some (.cells cs t fr)) (hne:t≠e) (hv:v.ownBlock=some r):False:=by
 obtain⟨-,h2⟩:=h;rcases h2 with h|⟨g0,cap,cur,rfl,hg,hc,-⟩
 ·obtain⟨rfl,-⟩:=h
  cases hv
 ·have e1:some g0=some r:=hv
  injection e1 with e1;subst e1;rw[hr] at hc;injection hc with hc;injection hc with _ hc;exact hne hc
theorem aYe {P:Program} {ops:Array Oper} {o:Oper} {a:Act} {K:Act→World→Prop} {Q:Exit→Act→World→Prop} {E:Prop} (hgd:o.guard=none) (s x:Operand) (t:TypeId)
  (ho:o.op=.call { callee:=.builtin .append,args:=#[s,x],argTypes:=#[t,t] })
  (w0:World) (e:TypeId) (i:TypeInfo) (z:Value) (size bytes:Nat) (ht:P.underlying t=some (.slice e)) (hi:P.info? e=some i) (hz:i.zero=some z)
  (hsize:i.size=size) (hby:i.bytes=bytes) (hzs:z.cells.size=size) (hsz:0<size)
  (v:Value) (n:Nat) (xs:List Value) (hs:a.eval s=v) (wr:World) (hown:wr.ownsRow w0.heap.size e size v n xs) (hg:aA w0 wr)
  (u:Value) (m:Nat) (cs:List Value) (hx:a.eval x=u) (hu:Rd wr size u cs) (hl:cs.length=m*size) (h1:∀ u∈cs,u.oneCell'=true)
  (h63:n+m≤maxLen) (hbytes:(n+m)*bytes≤140737488355328)
  (h:∀ v' w',w'.ownsRow w0.heap.size e size v' (n+m) (xs++cs)→aA w0 w'→(∀ p x,wr.cell? p=some x→some p.block≠v.ownBlock→w'.cell? p=some x)→(∀(k:Nat) cs t fr,wr.heap[k]? = some (.cells cs t fr)→t≠e→w'.heap[k]? = some (.cells cs t fr))→wr.heap.size≤w'.heap.size→K (a.put o.dst v') w'):if Region.wanted o (yielded ops a.tmps)=true then Oper.wp P o a wr K Q else E:=by
 have hw:Region.wanted o (yielded ops a.tmps)=true:=by simp[Region.wanted,hgd]
 rw[if_pos hw];obtain⟨A,m',c,rfl,hl',hmc,_,hr⟩:=hu;obtain rfl:m'=m:=Nat.eq_of_mul_eq_mul_right hsz (hl'.symm.trans hl)
 cases A with
 | none =>
  have hm0:=h_72;subst hm0;have hcs:=h_190;subst hcs;have hrun:=h_183;unfold Oper.wp execOp;simp only [ho,resolve,invoke,builtin,Sem.run_bind,Sem.run_pure,Result.andThen_ok,List.map_toArray,List.map_cons,List.map_nil,hs,hx,hrun];exact h v wr (by simpa using hown) hg (fun p x hp _=>hp) (fun k cs t fr hk _=>hk) (Nat.le_refl _)
 | some ad =>
  refine wp_append_own wr s x t ho w0.heap.size e i z size bytes ht hi hz hsize hby hzs hsz v n xs hs hown ad m' c cs hx hl ?_ h1 h63 hbytes hg.size ?_
  ·intro j u hu
   have hj:=(List.getElem?_eq_some_iff.1 hu).1;have h0:=h_129;obtain⟨b,off,hA,_,hcell⟩:=hr h0;cases hA;rw[bT];exact hcell j u hu
  ·intro v' w' h2 h3 _
   exact h v' w' h2 (Below.grown hg h3 hg.size (fun k hk=>(hown.lt k hk).1)) (fun p x hp hne=>h3.cell hp hne) (fun k cs t fr hk hne=>bY h3 hk (fun r hr hrk=>aVc hown hk hne (hr.trans (by rw[hrk])))) h3.size
theorem aQy {w:World} {base:Nat} {v:Value} {l:List Opn} {o:Opn} {m:Nat} (h:w.ownsRow base 26 12 v m ([]++l.flatMap Opn.cells++o.cells)):SlO w v (l++[o]):=by
 have e:([]++l.flatMap Opn.cells++o.cells)=(l++[o]).flatMap Opn.cells:=by simp
 rw[e] at h;exact Rd.of_own h
theorem aUx {W:World} {size:Nat} {e:TypeId} {o:Obj} (cs:List Value) (hl:cs.length=size) (H:Nat) (hH:W.heap.size=H):Rd ((W.alloc (.cells cs.toArray e)).alloc o) size (.slice (some ⟨H,0,none⟩) 1 1) cs:=Rd.mono (gE cs hl H hH) ((uX _).alloc _)
theorem aKw {W:World} {size:Nat} {cs:List Value} {H n:Nat} {o:Obj} (hl:cs.length=n*size) (hn:n≤maxLen) (hb:H<W.heap.size) (h:∀ j u,cs[j]? = some u→W.cell? ⟨H,j,none⟩=some u):Rd (W.alloc o) size (.slice (some ⟨H,0,none⟩) n n) cs:=Rd.mono (eO hl hn hb h) ((uX _).alloc _)
theorem jQ {W:World} {e:TypeId} {H:Nat} (cs:List Value) (hH:W.heap.size=H) (j:Nat) (u:Value) (hu:cs[j]? = some u):(W.alloc (.cells cs.toArray e)).cell? ⟨H,j,none⟩=some u:=by
 subst hH;exact aC (aO W (.cells cs.toArray e)) (by simpa using hu)
theorem eR {W:World} {o:Obj} {H:Nat} (hH:W.heap.size=H):(W.alloc o).heap[H]? = some o:=by
 subst hH;exact aO W o
theorem aMa {l:List Opn} {o:Opn} {k:Nat} (h:l.length=k+1):mB l o=(decide (o.id≤(l[k]'b_53).id) || decide (o.day<(l[k]'b_53).day)):=by
 unfold mB
 have:l.getLast? = some (l[k]'b_53):=by
  rw[List.getLast?_eq_getElem?,List.getElem?_eq_getElem b_53];simp only [h,Nat.add_sub_cancel]
 rw[this]
def zGl:=Unit
theorem zGl.g {p:Prop} (_:zGl) (h:p:=by
 go_enter Tryz.func43,Tryz.ntmps43;by_cases h512:512≤l.length
 case pos =>
  have hz:(512:Int)≤(l.length:Int):=by omega
  have hres:=HQ.out;rw[if_pos h512,if_pos b_52] at hres;subst hres;clear h512;go_wp2;refine bodyPost_ret (v:=.tuple #[.int .i64 (-1),.int .i64 8]) b_39 rfl ⟨rfl,HG0.out⟩
 case neg =>
  have hz:¬ (512:Int)≤(l.length:Int):=by omega
  have hq1:=HQ.out;rw[if_neg h512] at hq1;have HQ1:=uZ hq1;clear HQ hq1;obtain⟨x0,x1,x2,x3,x4,x5,x6,x7,x8,x9,x10,x11⟩:=vS HX0.out;go_wp2_with fail;clear x0 x1 x2 x3 x4 x5 x6 x7 x8 x9 x10 x11;refine(KF.out _).mono ?_;rintro e w1 ⟨rfl,g1⟩;have HG1:=h_229;have HX1:=uZ (aD g1 HX0.out);clear g1 KF;dsimp only;cases FO
  case false =>
   have hres:=HQ1.out;rw[if_pos rfl,if_pos b_52] at hres;subst hres;go_wp2;refine bodyPost_ret (v:=.tuple #[.int .i64 (-1),.int .i64 1]) b_39 rfl ⟨rfl,HG1.out⟩
  case true =>
   have hq2:=HQ1.out;rw[if_neg (show ¬ true=false by decide)] at hq2;have HQ2:=uZ hq2;clear hq2;have KS1:=uZ (KS.out rfl);clear HQ1 KS;obtain⟨x0,x1,x2,x3,x4,x5,x6,x7,x8,x9,x10,x11⟩:=vS HX1.out;go_upto_region 5 with fail;go_cut [18] from 19 to 45 (fun s18 wx=>s18=.bool LT∧Aside (aA w1 wx))
   case first =>
    clear HQ2 KS1;rcases Nat.eq_zero_or_pos l.length with h0|h0
    case inl =>
     have hl0:=HL0.out h0;have hd:decide ((0:Int)<(l.length:Int))=false:=by rw[decide_eq_false_iff_not];omega
     have hd2:¬ (0:Int)<(l.length:Int):=by omega
     have hd3:¬ 0<l.length:=by omega
     subst hl0;clear h0 HL0 HLT;exact c_112
    case inr =>
     obtain⟨k,hk⟩:∃ k,l.length=k+1:=⟨l.length-1,by omega⟩
     have hlt:=HLT.out k hk;obtain⟨b,off,rfl,hbb,hcell⟩:=HR.out h0;obtain⟨c0,c1,-⟩:=hcell w1 HG1.out k b_53;have hd:decide ((0:Int)<(l.length:Int))=true:=by rw[decide_eq_true_eq];omega
     have hd2:(0:Int)<(l.length:Int):=by omega
     have hsub:IntKind.i64.wrap ((l.length:Int)-1)=(k:Int):=by
      rw[show((l.length:Int)-1)=(k:Int) by omega,IntKind.wrap_i64];omega
     have hk0:=h_216;have hkl:=h_208;have HKK:=uZ hk;clear hcell HL0 HLT;generalize (l[k]'(by have:=HKK.out;omega)).id=p0 at c0 hlt;generalize (l[k]'(by have:=HKK.out;omega)).day=p1 at c1 hlt;clear hk;cases hle:decide (o0≤p0)
     case true =>
      have hle2:o0≤p0:=of_decide_eq_true hle;rw[hle,Bool.true_or] at hlt;subst hlt;clear hle;exact c_112
     case false =>
      have hle2:¬ o0≤p0:=of_decide_eq_false hle;rw[hle,Bool.false_or] at hlt;cases hdy:decide (o1<p1)
      case true =>
       have hdy2:o1<p1:=of_decide_eq_true hdy;rw[hdy] at hlt;subst hlt;clear hle hdy;exact c_112
      case false =>
       have hdy2:¬ o1<p1:=of_decide_eq_false hdy;rw[hdy] at hlt;subst hlt;clear hle hdy;go_wp2;go_quiet (fail);go_wp2;go_meet;exact⟨congrArg Value.bool (by rw[decide_eq_false b_53,decide_eq_false b_53];rfl),(show Aside _ from(uX w1).drewN _)⟩
   case rest =>
    obtain⟨rfl,BW⟩:=hcut;obtain⟨wB,hwB⟩:∃ wB,wB=wc:=⟨_,rfl⟩
    subst hwB;have HBW:=uZ BW.out;have HGB:=uZ (HG1.out.trans HBW.out);have HXB:=uZ (aD HBW.out HX1.out);clear BW HBW HG1 HX1 HL0 HLT x0 x1 x2 x3 x4 x5 x6 x7 x8 x9 x10 x11;cases LT
    case true =>
     have hres:=HQ2.out;rw[if_pos rfl,if_pos b_52] at hres;subst hres;go_wp2;refine bodyPost_ret (v:=.tuple #[.int .i64 (-1),.int .i64 5]) b_39 rfl ⟨rfl,HGB.out⟩
    case false =>
     have hq3:=HQ2.out;rw[if_neg (show ¬ false=true by decide)] at hq3;have HQ3:=uZ hq3;clear hq3 HQ2;obtain⟨x0,x1,x2,x3,x4,x5,x6,x7,x8,x9,x10,x11⟩:=vS HXB.out;go_wp2_with fail;clear x0 x1 x2 x3 x4 x5 x6 x7 x8 x9 x10 x11;refine(KS1.out _ HGB.out).mono ?_;rintro e w2 ⟨rfl,g2⟩;have HG2:=uZ (HGB.out.trans g2);have HX2:=uZ (aD g2 HXB.out);clear g2 KS1 HGB HXB;dsimp only;by_cases hsp:SP=0
     case neg =>
      have hb:(SP != 0)=true:=by simpa using hsp
      have hres:=HQ3.out;rw[if_pos hsp] at hres;subst hres;clear hsp;go_wp2;refine bodyPost_ret (v:=.tuple #[.int .i64 (-1),.int .i64 SP]) b_39 rfl ⟨rfl,HG2.out⟩
     case pos =>
      subst hsp;have hb:=h_218;have hq4:=HQ3.out;rw[if_neg (fun k=>k rfl)] at hq4;have HQ4:=uZ hq4;clear hq4 HQ3;obtain⟨x0,x1,x2,x3,x4,x5,x6,x7,x8,x9,x10,x11⟩:=vS HX2.out;go_wp2_with fail;go_cut [7,8,9] from 52 to 62 (fun s7 s8 s9 wx=>bBh RP.2 w2 s8 s9 wx)
      case first =>
       have HSS:=h_2;have HV:=uZ (HVL.out.mono HG2.out);have hN:=HN.out;have HPL:=uZ (aL Opn.cells 12 (fun _=>rfl) l);have hsz1:0<12:=by omega
       have hp63:0+l.length≤maxLen:=by unfold maxLen;omega
       have hpb:(0+l.length)*112≤140737488355328:=by omega
       have hq63:0+l.length+1≤maxLen:=by unfold maxLen;omega
       have hqb:(0+l.length+1)*112≤140737488355328:=by omega
       have hone:∀ u∈([.int .i64 o0,.int .i64 o1,.int .i64 o2,.int .i64 o3,.int .i64 o4,.int .i64 o5,.int .i64 o6,.string o7,.string o8,.int .i64 o9,.int .i64 o10,.int .i64 o11]:List Value),u.oneCell'=true:=by simp[Value.oneCell']
       go_region_held3 (fun W=>W.cell? ⟨XB,0,none⟩=some (.int .i64 o0)∧W.cell? ⟨XB,1,none⟩=some (.int .i64 o1)∧W.cell? ⟨XB,2,none⟩=some (.int .i64 o2)∧W.cell? ⟨XB,3,none⟩=some (.int .i64 o3)∧W.cell? ⟨XB,4,none⟩=some (.int .i64 o4)∧W.cell? ⟨XB,5,none⟩=some (.int .i64 o5)∧W.cell? ⟨XB,6,none⟩=some (.int .i64 o6)∧W.cell? ⟨XB,7,none⟩=some (.string o7)∧W.cell? ⟨XB,8,none⟩=some (.string o8)∧W.cell? ⟨XB,9,none⟩=some (.int .i64 o9)∧W.cell? ⟨XB,10,none⟩=some (.int .i64 o10)∧W.cell? ⟨XB,11,none⟩=some (.int .i64 o11)∧aA w2 W) (refine HSS.out _ (by repeat (with_reducible first|exact uX _|exact G5.out|exact G2.out|exact G1.out|refine uJ ?_|refine uU ?_ _|refine yZ ?_ (by first|exact Nat.le_refl _|exact BL.out|exact G2.out.size|simp) _))) (first|(go_at_call 48;(with_reducible refine(KR.out _ _ (SlO.mono (aQy (o:=⟨o0,o1,o2,o3,o4,o5,o6,o7,o8,o9,o10,o11⟩) O2.out) b_11)).mono ?_);rintro e w5 ⟨rv,bv,rfl,ht,gq⟩;obtain⟨RA,ra,hRA,-⟩:=SlI.open_ (v:=rv) (aEr ht);subst hRA;obtain⟨RB,rb,hRB,-⟩:=bQ.open_ (v:=bv) (oR ht);subst hRB;have G5:=uZ (G2.out.trans (uY b_11 gq));(try (have B5:=uZ (aD (show aA w4 w5 from uY b_11 gq) B4.out)));(try (have hdr:aA (w4.alloc (.cells [.slice none 0 0,.slice none 0 0].toArray 43)).drew w5:=b_44;have B5:=uZ (aD (uY (uX _).drew hdr) (aO w4 (.cells [.slice none 0 0,.slice none 0 0].toArray 43)));have BL:=uZ G2.out.size));(try (have hdr:aA (w4.alloc (.cells [.slice none 0 0,.slice none 0 0].toArray 43)) w5:=b_44;have B5:=uZ (aD hdr (aO w4 (.cells [.slice none 0 0,.slice none 0 0].toArray 43)));have BL:=uZ G2.out.size));(try (have q0:=aC (i:=0) (x:=.slice none 0 0) B5.out rfl;have q1:=aC (i:=1) (x:=.slice none 0 0) B5.out rfl;have z0:=aS (i:=0) B5.out;have z1:=aS (i:=1) B5.out));clear ht gq)|((with_reducible change @ite _ (Region.wanted ⟨some 55,_,_,_,_,_⟩ _=true) _ _ _);refine aYe (o:=⟨some 55,_,_,_,_,_⟩) b_55 (.tmp 53) (.tmp 54) 22 b_55 w2 26 k0 (.agg #[.int .i64 0,.int .i64 0,.int .i64 0,.int .i64 0,.int .i64 0,.int .i64 0,.int .i64 0,.string ⟨#[]⟩,.string ⟨#[]⟩,.int .i64 0,.int .i64 0,.int .i64 0]) 12 112 Tryz.underlying22 hk0 hx0 hx1 hx2 rfl hsz1 _ 0 [] b_55 _ (by repeat (first|exact fS _ b_54 (by first|omega|(simp;done))|refine World.ownsRow.alloc ?_ _)) b_11 _ l.length (l.flatMap Opn.cells) b_55 (Rd.mono HV.out b_11) HPL.out (qB _) hp63 hpb ?_;intro v1 w3 o1 g1 q1 y1 z1;have O1:=uZ o1;have G1:=uZ g1;have X1:=uZ q1;(try (have BX0:w3.heap[w2.heap.size]? = some (.cells #[.slice none 0 0,.slice none 0 0] 43 (0,0)):=?_;rotate_left;(focus ((refine y1 _ _ _ _ ?_ b_52);(first|(refine eR ?_;simp;done)|(refine aD ((uX _).alloc _) (eR ?_);simp;done)|(refine aD (((uX _).alloc _).alloc _) (eR ?_);simp;done))));have B3:=uZ BX0;have BL:=uZ (show w2.heap.size≤w2.heap.size from Nat.le_refl _)));(try (have BX0:w3.heap[w2.heap.size+1]? = some (.cells #[.slice none 0 0,.slice none 0 0] 43 (0,0)):=?_;rotate_left;(focus ((refine y1 _ _ _ _ ?_ b_52);(first|(refine eR ?_;simp;done)|(refine aD ((uX _).alloc _) (eR ?_);simp;done)|(refine aD (((uX _).alloc _).alloc _) (eR ?_);simp;done))));have B3:=uZ BX0;have BL:=uZ (show w2.heap.size≤w2.heap.size+1 from Nat.le_trans (Nat.le_refl _) (Nat.le_add_right _ _))));(try (have BX0:w3.heap[w2.heap.size+2]? = some (.cells #[.slice none 0 0,.slice none 0 0] 43 (0,0)):=?_;rotate_left;(focus ((refine y1 _ _ _ _ ?_ b_52);(first|(refine eR ?_;simp;done)|(refine aD ((uX _).alloc _) (eR ?_);simp;done)|(refine aD (((uX _).alloc _).alloc _) (eR ?_);simp;done))));have B3:=uZ BX0;have BL:=uZ (show w2.heap.size≤w2.heap.size+2 from Nat.le_trans (Nat.le_refl _) (Nat.le_add_right _ _))));(try simp at z1);clear o1 g1 q1 y1)|((with_reducible change @ite _ (Region.wanted ⟨some 58,_,_,_,_,_⟩ _=true) _ _ _);refine aYe (o:=⟨some 58,_,_,_,_,_⟩) b_55 (.tmp 55) (.tmp 57) 22 b_55 w2 26 k0 (.agg #[.int .i64 0,.int .i64 0,.int .i64 0,.int .i64 0,.int .i64 0,.int .i64 0,.int .i64 0,.string ⟨#[]⟩,.string ⟨#[]⟩,.int .i64 0,.int .i64 0,.int .i64 0]) 12 112 Tryz.underlying22 hk0 hx0 hx1 hx2 rfl hsz1 _ (0+l.length) ([]++l.flatMap Opn.cells) b_55 _ b_24 b_15 _ 1 [.int .i64 o0,.int .i64 o1,.int .i64 o2,.int .i64 o3,.int .i64 o4,.int .i64 o5,.int .i64 o6,.string o7,.string o8,.int .i64 o9,.int .i64 o10,.int .i64 o11] b_55 (by first|exact gE _ rfl _ b_54|exact aUx _ rfl _ b_54|exact aKw rfl b_52 b_53 (fun j u hu=>X1.out _ _ b_4 (by change some _≠some _;first|(simp;done)|(simp;omega)))|exact eO rfl b_52 b_53 (fun j u hu=>X1.out _ _ b_4 (by change some _≠some _;first|(simp;done)|(simp;omega)))) b_54 hone hq63 hqb ?_;intro v2 w4 o2 g2 q2 y2 z2;have O2:=uZ o2;have G2:=uZ g2;(try (have BX1:=B3.out;have B4:=uZ (y2 _ _ _ _ (aD b_11 BX1) b_52)));(try (have BX0:w4.heap[w3.heap.size]? = some (.cells #[.slice none 0 0,.slice none 0 0] 43 (0,0)):=?_;rotate_left;(focus ((refine y2 _ _ _ _ ?_ b_52);(first|(refine eR ?_;simp;done)|(refine aD ((uX _).alloc _) (eR ?_);simp;done)|(refine aD (((uX _).alloc _).alloc _) (eR ?_);simp;done))));have B4:=uZ BX0;have BL:=uZ (show w2.heap.size≤w3.heap.size from G1.out.size)));(try (have BX0:w4.heap[w3.heap.size+1]? = some (.cells #[.slice none 0 0,.slice none 0 0] 43 (0,0)):=?_;rotate_left;(focus ((refine y2 _ _ _ _ ?_ b_52);(first|(refine eR ?_;simp;done)|(refine aD ((uX _).alloc _) (eR ?_);simp;done)|(refine aD (((uX _).alloc _).alloc _) (eR ?_);simp;done))));have B4:=uZ BX0;have BL:=uZ (show w2.heap.size≤w3.heap.size+1 from Nat.le_trans (G1.out.size) (Nat.le_add_right _ _))));clear o2 g2 q2 y2 z2))
       all_goals go_wp2_with fail
       all_goals go_meet
       all_goals exact⟨rfl,rfl,(by repeat (with_reducible first|exact G5.out|refine uJ ?_|refine uU ?_ _|refine yZ ?_ (by exact BL.out) _))⟩
      case rest =>
       obtain⟨rfl,rfl,hG⟩:=hcut;have HG3:=uZ (HG2.out.trans hG);clear x0 x1 x2 x3 x4 x5 x6 x7 x8 x9 x10 x11;have x2:wc.cell? ⟨XB,2,none⟩=some (.int .i64 o2):=aC (aD hG HX2.out) rfl;clear hG;obtain⟨t9,i9,n9⟩:=RP;dsimp only at HQ4 ⊢;by_cases hn:n9=0
       ·subst hn
        have hres:=HQ4.out;rw[if_neg (fun k=>k.1 rfl)] at hres;subst hres;go_wp2;refine bodyPost_ret (v:=.tuple #[.int .i64 i9,.int .i64 0]) b_39 rfl ⟨rfl,HG3.out⟩
       ·have hb3:(n9 != 0)=true:=by simpa using hn
        by_cases h6:o2=6
        ·subst h6
         have hres:=HQ4.out;rw[if_pos ⟨hn,rfl⟩] at hres;subst hres;clear hn;go_wp2;refine bodyPost_ret (v:=.tuple #[.int .i64 i9,.int .i64 20]) b_39 rfl ⟨rfl,HG3.out⟩
        ·have hb4:(o2 == 6)=false:=by simpa using h6
         have hres:=HQ4.out;rw[if_neg (fun k=>h6 k.2)] at hres;subst hres;clear hn h6;go_wp2;refine bodyPost_ret (v:=.tuple #[.int .i64 i9,.int .i64 n9]) b_39 rfl ⟨rfl,HG3.out⟩
):p:=h
theorem zP (l:List Opn) (o:Opn) (hA:gD l) (hm:∀ x∈l,x.mark.size≤100) (hmo:o.mark.size≤100) (hlen:l.length<1000000) (lv:Value) (w:World) (hv:SlO w lv l):Calls Tryz.prog 43 #[lv,o.agg] w fun e w'=>e=.returned (.tuple #[.int .i64 (bF l (aG l).1 o).2.1,.int .i64 (bF l (aG l).1 o).2.2])∧aA w w':=by
 have KF:=uZ (fun W=>fQ o W (Nat.le_trans hmo b_52));have KS:=uZ (fun(hf:aP o=true) W (g:aA w W)=>aGv l o hA hf b_53 lv W (hv.mono g))
 have KR:=uZ (fun v W (h:SlO W v (l++[o]))=>sO (l++[o]) (fun x hx=>by
  rcases List.mem_append.1 hx with hx|hx
  ·exact hm x hx
  ·rw[List.mem_singleton.1 hx];exact hmo) (by rw[List.length_append,List.length_singleton];omega) v W h)
 have HVL:=uZ hv;have HLT:=uZ (fun k (h:l.length=k+1)=>aMa (o:=o) h)
 have HL0:=uZ (show l.length=0→mB l o=false from fun h=>by
  obtain rfl:=List.eq_nil_of_length_eq_zero h
  rfl)
 have hq:=aSg hA o;rw[aHz] at hq;generalize (bF l (aG l).1 o).2=RES at hq ⊢;have HQ:=uZ hq;obtain⟨A,c,rfl,hlc,hcap,hr⟩:=hv.open_;unfold maxLen at hcap;have HR:=uZ hr;have HN:=uZ hlen;obtain⟨k0,hk0,hx0,hx1,hx2⟩:=info_parts aAt;generalize mB l o=LT at HLT HL0 HQ;generalize hfo:aP o=FO at KF KS HQ;generalize aJq l o=SP at KS HQ;unfold bBp at HQ;unfold rH at KR;generalize aG (l++[o])=RP at KR HQ;obtain⟨o0,o1,o2,o3,o4,o5,o6,o7,o8,o9,o10,o11⟩:=o;unfold Opn.agg at KF KS ⊢;dsimp only at KF KS KR HLT HL0 HQ ⊢;have HX0:=h_32;have HG0:=h_26;clear hv hr hA hm hmo hlen hq hfo;have nX:zGl:=()
 exact s_36
theorem SlO.takeN {W:World} {A:Option Addr} {n c:Nat} {l:List Opn} (h:SlO W (.slice A n c) l) (k:Nat) (hk:k≤l.length):SlO W (.slice A k c) (l.take k):=by
 obtain⟨A',n',c',hv,hl,hn,hc,h0⟩:=h;cases hv;have hf:=aL Opn.cells 12 (fun _=>rfl) l;have hm:=aL Opn.cells 12 (fun _=>rfl) (l.take k);rw[List.length_take,Nat.min_eq_left hk] at hm;refine⟨A,k,c,rfl,by omega,by omega,hc,fun hpos=>?_⟩;obtain⟨b,off,hA,hb,hcell⟩:=h0 b_53;refine⟨b,off,hA,hb,fun j u hj=>hcell j u ?_⟩;have e:l.flatMap Opn.cells=(l.take k).flatMap Opn.cells++(l.drop k).flatMap Opn.cells:=by rw[← List.flatMap_append,List.take_append_drop]
 rw[e,List.getElem?_append_left (List.getElem?_eq_some_iff.1 hj).1];exact hj
end Go.Proofs.YtdochkemaiokfaaGreat




