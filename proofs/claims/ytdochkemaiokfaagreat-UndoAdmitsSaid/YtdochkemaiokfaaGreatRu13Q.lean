/- The reference of layer 22: Admit, walked. The conditions: the marks are short, the log is not long. -/
import Derived.BigQuiet
import Derived.Deep.CutRange
import Derived.Deep.RegionHeld3
import Derived.Test.YtdochkemaiokfaaGreatQ42
import Derived.Test.YtdochkemaiokfaaGreatQ8
import Derived.Test.YtdochkemaiokfaaGreatQ4
import Derived.Test.YtdochkemaiokfaaGreatQ30
import Derived.Test.YtdochkemaiokfaaGreatQ33
import Derived.Test.YtdochkemaiokfaaGreatQ1
import Derived.Test.YtdochkemaiokfaaGreatQ35
import Derived.Test.YtdochkemaiokfaaGreatQ41
import Derived.Test.YtdochkemaiokfaaGreatQ32
set_option maxHeartbeats 16000000
set_option maxRecDepth 100000
set_option linter.all false
namespace Go.Proofs.YtdochkemaiokfaaGreat
open Go.RowKit
theorem aLy {w:World} {base:Nat} {v:Value} {l:List Opn} {o:Opn} {m:Nat} (h:w.ownsRow base 26 12 v m ([]++l.flatMap Opn.cells++o.cells)):∃ A n c,v=.slice A n c∧SlO w (.slice A n c) (l++[o]):=by
 have e:([]++l.flatMap Opn.cells++o.cells)=(l++[o]).flatMap Opn.cells:=by simp
 rw[e] at h;obtain⟨A,c,rfl⟩:=aJ h;exact⟨A,_,c,rfl,Rd.of_own h⟩
def zGm:=Unit
theorem zGm.g {p:Prop} (_:zGm) (h:p:=by
 go_enter Tryz.func18,Tryz.ntmps18;go_wp2_with fail;refine(KR.out _ HG0.out).mono ?_;rintro e w1 ⟨rfl,g1⟩;have HG1:=h_229;have HX1:=uZ (aD g1 HX0.out);clear g1 HG0 HX0 KR;dsimp only;by_cases hE:E=0
 case neg =>
  have hb:(E == 0)=false:=by simpa using hE
  have hres:=HQ.out.trans (if_neg hE);subst hres;clear HQ hE;go_wp2;refine bodyPost_ret (v:=.tuple #[.slice none 0 0,.int .i64 (-1),.int .i64 1]) (by simp[results,Tryz.results18,go_sem]) rfl ⟨_,rfl,SlO.nil _,HG1.out⟩
 case pos =>
  have hb:(E == 0)=true:=by simpa using hE
  have HQ1:=uZ (HQ.out.trans (if_pos hE));have KA1:=uZ (KA.out (HK.out hE));subst hE;clear HQ KA HK;obtain⟨x0,x1,x2,x3,x4,x5,x6,x7,x8,x9,x10,x11⟩:=vS HX1.out;go_wp2_with fail;clear x0 x1 x2 x3 x4 x5 x6 x7 x8 x9 x10 x11;refine(KA1.out _ HG1.out).mono ?_;rintro e w2 ⟨rfl,g2⟩;have HG2:=uZ (HG1.out.trans g2);have HX2:=uZ (aD g2 HX1.out);clear g2 HG1 HX1 KA1;dsimp only;by_cases hn:n9=0
  case neg =>
   have hb2:(n9 != 0)=true:=by simpa using hn
   have hres:=HQ1.out.trans (if_neg hn);subst hres;clear HQ1 hn;go_wp2;refine bodyPost_ret (v:=.tuple #[.slice none 0 0,.int .i64 i9,.int .i64 n9]) (by simp[results,Tryz.results18,go_sem]) rfl ⟨_,rfl,SlO.nil _,HG2.out⟩
  case pos =>
   have hb2:(n9 != 0)=false:=by simpa using hn
   have hres:=HQ1.out.trans (if_pos hn);subst hres hn;clear HQ1;obtain⟨x0,x1,x2,x3,x4,x5,x6,x7,x8,x9,x10,x11⟩:=vS HX2.out;have HSS:=h_2;have HV:=uZ (HVL.out.mono HG2.out);have hN:=HN.out;have hpl:(l.flatMap Opn.cells).length=l.length*12:=aL Opn.cells 12 (fun _=>rfl) l;have HPL:=uZ hpl;have hsz1:0<12:=by omega
   have hp63:0+l.length≤maxLen:=by unfold maxLen;omega
   have hpb:(0+l.length)*112≤140737488355328:=by omega
   have hq63:0+l.length+1≤maxLen:=by unfold maxLen;omega
   have hqb:(0+l.length+1)*112≤140737488355328:=by omega
   have hone:∀ u∈([.int .i64 o0,.int .i64 o1,.int .i64 o2,.int .i64 o3,.int .i64 o4,.int .i64 o5,.int .i64 o6,.string o7,.string o8,.int .i64 o9,.int .i64 o10,.int .i64 o11]:List Value),u.oneCell'=true:=hone0;clear hpl hone0;go_wp2_with fail
   go_region_held3 (fun W=>W.cell? ⟨XB,0,none⟩=some (.int .i64 o0)∧W.cell? ⟨XB,1,none⟩=some (.int .i64 o1)∧W.cell? ⟨XB,2,none⟩=some (.int .i64 o2)∧W.cell? ⟨XB,3,none⟩=some (.int .i64 o3)∧W.cell? ⟨XB,4,none⟩=some (.int .i64 o4)∧W.cell? ⟨XB,5,none⟩=some (.int .i64 o5)∧W.cell? ⟨XB,6,none⟩=some (.int .i64 o6)∧W.cell? ⟨XB,7,none⟩=some (.string o7)∧W.cell? ⟨XB,8,none⟩=some (.string o8)∧W.cell? ⟨XB,9,none⟩=some (.int .i64 o9)∧W.cell? ⟨XB,10,none⟩=some (.int .i64 o10)∧W.cell? ⟨XB,11,none⟩=some (.int .i64 o11)∧aA w2 W) (refine HSS.out _ (by repeat (with_reducible first|exact uX _|exact G2.out|exact G1.out|refine uJ ?_|refine uU ?_ _))) (first|(refine eM (o:=⟨some 24,_,_,_,_,_⟩) b_55 (.tmp 22) (.tmp 23) 22 b_55 w2 26 k0 (.agg #[.int .i64 0,.int .i64 0,.int .i64 0,.int .i64 0,.int .i64 0,.int .i64 0,.int .i64 0,.string ⟨#[]⟩,.string ⟨#[]⟩,.int .i64 0,.int .i64 0,.int .i64 0]) 12 112 Tryz.underlying22 hk0 hx0 hx1 hx2 rfl hsz1 _ 0 [] b_55 _ b_14 b_11 _ l.length (l.flatMap Opn.cells) b_55 (Rd.mono HV.out b_11) HPL.out (qB _) hp63 hpb ?_;intro v1 w3 o1 g1 q1 z1;have O1:=uZ o1;have G1:=uZ g1;have X1:=uZ q1;(try simp at z1);clear o1 g1 q1)|(refine eM (o:=⟨some 27,_,_,_,_,_⟩) b_55 (.tmp 24) (.tmp 26) 22 b_55 w2 26 k0 (.agg #[.int .i64 0,.int .i64 0,.int .i64 0,.int .i64 0,.int .i64 0,.int .i64 0,.int .i64 0,.string ⟨#[]⟩,.string ⟨#[]⟩,.int .i64 0,.int .i64 0,.int .i64 0]) 12 112 Tryz.underlying22 hk0 hx0 hx1 hx2 rfl hsz1 _ (0+l.length) ([]++l.flatMap Opn.cells) b_55 _ b_24 b_15 _ 1 [.int .i64 o0,.int .i64 o1,.int .i64 o2,.int .i64 o3,.int .i64 o4,.int .i64 o5,.int .i64 o6,.string o7,.string o8,.int .i64 o9,.int .i64 o10,.int .i64 o11] b_55 (by first|exact gE _ rfl _ b_54|exact eO rfl b_52 b_53 (fun j u hu=>by rcases j with _|_|_|_|_|_|_|_|_|_|_|_|j<;>simp at hu<;>(try (subst hu;exact X1.out _ _ b_54 b_42)))) b_54 hone hq63 hqb ?_;intro v2 w4 o2 g2 q2 z2;have O2:=uZ o2;have G2:=uZ g2;clear o2 g2 q2 z2))
   all_goals go_wp2_with fail
   all_goals
    obtain⟨A5,n5,c5,hv5,h5⟩:=aLy (o:=⟨o0,o1,o2,o3,o4,o5,o6,o7,o8,o9,o10,o11⟩) O2.out;subst hv5;have HS5:=uZ h5;clear h5 x0 x1 x2 x3 x4 x5 x6 x7 x8 x9 x10 x11;go_wp2;refine bodyPost_ret (v:=.tuple #[.slice A5 n5 c5,.int .i64 (-1),.int .i64 0]) (by simp[results,Tryz.results18,go_sem]) rfl ⟨_,rfl,HS5.out,HG2.out.trans G2.out⟩
):p:=h
theorem aKs (l:List Opn) (o:Opn) (hm:∀ x∈l,x.mark.size≤100) (hmo:o.mark.size≤100) (hlen:l.length<1000000) (lv:Value) (w:World) (hv:SlO w lv l):Calls Tryz.prog 18 #[lv,o.agg] w (aSm (yJ l o) w):=by
 have KR:=h_187;have KA:=uZ (fun(hA:gD l) W (g:aA w W)=>zP l o hA hm hmo hlen lv W (hv.mono g));have HK:=uZ (fun h=>(tA (l:=l) h).1);have HQ:=uZ (show yJ l o=if (cS l).2.2=0 then(if (bF l (aG l).1 o).2.2=0 then(l++[o],-1,0) else([],(bF l (aG l).1 o).2.1,(bF l (aG l).1 o).2.2)) else([],-1,1) from rfl);have HVL:=uZ hv;obtain⟨A,c,rfl,hlc,hcap,-⟩:=hv.open_;unfold maxLen at hcap;obtain⟨k0,hk0,hx0,hx1,hx2⟩:=info_parts aAt;generalize yJ l o=RES at HQ ⊢;generalize (bF l (aG l).1 o).2=AR at KA HQ;generalize (cS l).2.2=E at KR HK HQ;have HN:=uZ hlen;have hone0:∀ u∈o.cells,u.oneCell'=true:=by simp[Opn.cells,Value.oneCell']
 obtain⟨i9,n9⟩:=AR;obtain⟨o0,o1,o2,o3,o4,o5,o6,o7,o8,o9,o10,o11⟩:=o;unfold Opn.agg at KA ⊢;dsimp only at KA HQ ⊢;have HX0:=h_32;have HG0:=h_26;clear hv hm hmo hlen;have nX:zGm:=()
 exact s_36
end Go.Proofs.YtdochkemaiokfaaGreat