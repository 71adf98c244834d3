/- Lemmas on what the functions of the program and of the library compute: Rv1, Rv2, Ru4, Rv4, Ru6, SortM, UnP. The conditions stand at each. -/
import Derived.BigQuiet
import Derived.Test.YtdochkemaiokfaaGreatQ10
import Derived.Test.YtdochkemaiokfaaGreatQ16
import Derived.Test.YtdochkemaiokfaaGreatQ33
import Derived.Test.YtdochkemaiokfaaGreatQ31
import Derived.Test.YtdochkemaiokfaaGreatQ1
import Derived.Test.YtdochkemaiokfaaGreatQ32
import Derived.Deep.CutRange
import Derived.Deep.RegionHeld3
import Derived.Test.YtdochkemaiokfaaGreatQ3
import Derived.Test.YtdochkemaiokfaaGreatQ8
import Derived.Test.YtdochkemaiokfaaGreatQ4
import Derived.Test.YtdochkemaiokfaaGreatQ30
import Derived.Test.YtdochkemaiokfaaGreatQ2
import Derived.Test.YtdochkemaiokfaaGreatQ15
import Derived.Sort.OwnSorted
import Derived.Sort.MapsRangeIn
import Derived.Maps.AppendAt
import Derived.Maps.RangeWalk
import Derived.Test.YtdochkemaiokfaaGreatQ21
set_option maxHeartbeats 16000000
set_option maxRecDepth 100000
set_option linter.all false
namespace Go.Proofs.YtdochkemaiokfaaGreat
open Go.RowKit
theorem c_63 {p:Prop} (h:p:=by
 clear HST HSP;go_wp2;go_quiet (fail);go_wp2;go_roundg (l.length-(kk+1))
 case measure=>omega
 case rel=>exact⟨kk+1,by omega,by omega,by go_num,(show Aside _ from BW.out.drewN _),(show Aside _ from HNX.out)⟩
):p:=h
theorem c_109 {p:Prop} (h:p:=by
 subst hres;go_wp2;go_quiet (fail);go_wp2;go_ret;exact⟨rfl,HG.out.trans (BW.out.drewN _)⟩
):p:=h
theorem h_143 {p:Prop} (h:p:=by
 exact uZ (aO w (.cells #[.int .i64 cu,.int .i64 co,.int .i64 ca,.int .i64 cn] 69))
):p:=h
theorem s_56 {p:Prop} (h:p:=by
 have h0z:=h_214;obtain⟨b,off,rfl,hbb,hcell⟩:=HR.out b_53;obtain⟨c0,c1,c2,c3⟩:=hcell wr (HG.out.trans BW.out) kk hlt;have x0:wr.cell? ⟨CB,0,none⟩=some (.int .i64 cu):=aC (aD BW.out HX.out) rfl;have x1:wr.cell? ⟨CB,1,none⟩=some (.int .i64 co):=aC (aD BW.out HX.out) rfl;have x2:wr.cell? ⟨CB,2,none⟩=some (.int .i64 ca):=aC (aD BW.out HX.out) rfl;have x3:wr.cell? ⟨CB,3,none⟩=some (.int .i64 cn):=aC (aD BW.out HX.out) rfl;exact nX.g
):p:=h
theorem aBd (c:Cm):iA c=(aN c.unit 1 1073741824 && iU c.office c.acc c.num):=rfl
theorem sP (c:Cm) (w:World):Calls Tryz.prog 171 #[c.agg] w fun e w'=>e=.returned (.bool (iA c))∧aA w w':=by
 have K1:=uZ (fun W=>wO c.unit 1 1073741824 W);have K2:=uZ (fun W=>uR c.office c.acc c.num W);rw[aBd];obtain⟨cu,co,ca,cn⟩:=c;unfold Cm.agg;dsimp only at K1 K2 ⊢;generalize aN cu 1 1073741824=b1 at K1 ⊢;generalize iU co ca cn=b2 at K2 ⊢;have HX:=h_143;have HG:=h_133;go_enter Tryz.func171,Tryz.ntmps171;go_wp2_with fail;refine(K1.out _).mono ?_;rintro e w1 ⟨rfl,rfl⟩;have y1:(w.alloc (.cells #[.int .i64 cu,.int .i64 co,.int .i64 ca,.int .i64 cn] 69)).cell? ⟨w.heap.size,1,none⟩=some (.int .i64 co):=aC HX.out rfl;have y2:(w.alloc (.cells #[.int .i64 cu,.int .i64 co,.int .i64 ca,.int .i64 cn] 69)).cell? ⟨w.heap.size,2,none⟩=some (.int .i64 ca):=aC HX.out rfl;have y3:(w.alloc (.cells #[.int .i64 cu,.int .i64 co,.int .i64 ca,.int .i64 cn] 69)).cell? ⟨w.heap.size,3,none⟩=some (.int .i64 cn):=aC HX.out rfl;dsimp only;cases b1
 ·go_wp2
  go_ret;exact⟨rfl,HG.out⟩
 ·go_wp2_with fail
  refine(K2.out _).mono ?_;rintro e w2 ⟨rfl,g2⟩;have HG2:=uZ (HG.out.trans g2);clear g2;dsimp only;go_wp2;go_ret;exact⟨rfl,HG2.out⟩
def iQ (l:List Cm) (c:Cm):Int:=if l.any (fun x=>x.unit == c.unit || ((c.acc != 0 && x.acc == c.acc) && x.num == c.num))=true then 6 else if l.any (fun x=>(c.acc != 0 && x.acc == c.acc) && x.office != c.office)=true then 10 else 0
theorem aGh {α:Type} (p:α→Bool) (l:List α) (k:Nat) (h:k<l.length):(l.take (k+1)).any p=((l.take k).any p || p l[k]):=by
 rw[List.take_succ_eq_append_getElem h,List.any_append];simp
theorem aGg {α:Type} (p:α→Bool) (l:List α) (k:Nat) (h:k<l.length) (hp:p l[k]=true):l.any p=true:=List.any_eq_true.2 ⟨_,List.getElem_mem h,hp⟩
def zIb:=Unit
theorem zIb.g {p:Prop} (_:zIb) (h:p:=by
 have HST:=uZ (HA1.out kk hlt);have HSP:=uZ (HS1.out kk hlt);clear hcell;generalize l[kk]=y at c0 c1 c2 c3 HST HSP;obtain⟨yu,yo,ya,yn⟩:=y;dsimp only at c0 c1 c2 c3 HST HSP;cases h1:(yu == cu);rotate_left
 ·have hres:=HR0.out.trans (if_pos (HSP.out (by simp[*])))
  exact c_109
 ·cases h2:(ca != 0)
  ·have HNX:=uZ (show(l.take (kk+1)).any (fun x:Cm=>x.unit == cu || ((ca != 0 && x.acc == ca) && x.num == cn))=false from HST.out.trans (by rw[M.out];simp[*]))
   exact c_63
  ·cases h3:(ya == ca)
   ·have HNX:=uZ (show(l.take (kk+1)).any (fun x:Cm=>x.unit == cu || ((ca != 0 && x.acc == ca) && x.num == cn))=false from HST.out.trans (by rw[M.out];simp[*]))
    exact c_63
   ·cases h4:(yn == cn)
    ·have HNX:=uZ (show(l.take (kk+1)).any (fun x:Cm=>x.unit == cu || ((ca != 0 && x.acc == ca) && x.num == cn))=false from HST.out.trans (by rw[M.out];simp[*]))
     exact c_63
    ·have hres:=HR0.out.trans (if_pos (HSP.out (by simp[*])))
     exact c_109
):p:=h
def zIc:=Unit
theorem zIc.g {p:Prop} (_:zIc) (h:p:=by
 have HST:=uZ (HA2.out kk hlt);have HSP:=uZ (HS2.out kk hlt);clear hcell;generalize l[kk]=y at c0 c1 c2 c3 HST HSP;obtain⟨yu,yo,ya,yn⟩:=y;dsimp only at c0 c1 c2 c3 HST HSP;cases h2:(ca != 0)
 ·have HNX:=uZ (show(l.take (kk+1)).any (fun x:Cm=>(ca != 0 && x.acc == ca) && x.office != co)=false from HST.out.trans (by rw[M.out];simp[*]))
  exact c_63
 ·cases h3:(ya == ca)
  ·have HNX:=uZ (show(l.take (kk+1)).any (fun x:Cm=>(ca != 0 && x.acc == ca) && x.office != co)=false from HST.out.trans (by rw[M.out];simp[*]))
   exact c_63
  ·cases h4:(yo != co)
   ·have HNX:=uZ (show(l.take (kk+1)).any (fun x:Cm=>(ca != 0 && x.acc == ca) && x.office != co)=false from HST.out.trans (by rw[M.out];simp[*]))
    exact c_63
   ·have hres:=HR1.out.trans (if_pos (HSP.out (by simp[*])))
    exact c_109
):p:=h
theorem uO (l:List Cm) (c:Cm) (hlen:l.length≤1000000) (lv:Value) (w:World) (hv:SlC w lv l):Calls Tryz.prog 172 #[lv,c.agg] w fun e w'=>e=.returned (.int .i64 (iQ l c))∧aA w w':=by
 obtain⟨A,n,rfl,hlc,hcap,hr⟩:=hv.open_;unfold maxLen at hcap;have HR:=uZ hr;have HN:=uZ hlen;have HA1:=uZ (aGh (fun x:Cm=>x.unit == c.unit || ((c.acc != 0 && x.acc == c.acc) && x.num == c.num)) l);have HA2:=uZ (aGh (fun x:Cm=>(c.acc != 0 && x.acc == c.acc) && x.office != c.office) l);have HS1:=uZ (aGg (fun x:Cm=>x.unit == c.unit || ((c.acc != 0 && x.acc == c.acc) && x.num == c.num)) l);have HS2:=uZ (aGg (fun x:Cm=>(c.acc != 0 && x.acc == c.acc) && x.office != c.office) l);generalize hR:iQ l c=RES;have HR0:=uZ (hR.symm.trans (show iQ l c=if l.any (fun x:Cm=>x.unit == c.unit || ((c.acc != 0 && x.acc == c.acc) && x.num == c.num))=true then 6 else if l.any (fun x:Cm=>(c.acc != 0 && x.acc == c.acc) && x.office != c.office)=true then 10 else 0 from rfl));obtain⟨cu,co,ca,cn⟩:=c;unfold Cm.agg;dsimp only at HA1 HA2 HS1 HS2 HR0 ⊢;have HX:=h_143;have HG:=h_133;clear hv hr hlen hR;go_enter Tryz.func172,Tryz.ntmps172;go_wp2_with fail;generalize w.alloc (.cells #[.int .i64 cu,.int .i64 co,.int .i64 ca,.int .i64 cn] 69)=w1 at *;generalize w.heap.size=CB at *;go_loopg [5] l.length (fun gg s5 wr=>∃ kk:Nat,kk≤l.length∧l.length-kk≤gg∧s5=.int .i64 kk∧Aside (aA w1 wr)∧Aside ((l.take kk).any (fun x:Cm=>x.unit == cu || ((ca != 0 && x.acc == ca) && x.num == cn))=false))
 case atStart=>exact⟨0,Nat.zero_le _,by omega,rfl,(show Aside _ from uX w1),(show Aside _ from rfl)⟩
 case round =>
  obtain⟨kk,hkk,hg,rfl,BW,M⟩:=hrel;by_cases hlt:kk<l.length
  ·have hltz:(kk:Int)<(l.length:Int):=by omega
   have nX:zIb:=()
   exact s_56
  ·have hltz:¬ (kk:Int)<(l.length:Int):=by omega
   obtain rfl:kk=l.length:=by omega
   have hm0:=M.out;rw[List.take_length] at hm0;have HR1:=uZ (HR0.out.trans (if_neg (by rw[hm0];exact Bool.false_ne_true)));have HBW:=uZ BW.out;clear hm0 M BW HR0 HA1 HS1 hg hkk hlt;go_wp2_with fail;go_loopg [6] l.length (fun gg s6 wr=>∃ kk:Nat,kk≤l.length∧l.length-kk≤gg∧s6=.int .i64 kk∧Aside (aA w1 wr)∧Aside ((l.take kk).any (fun x:Cm=>(ca != 0 && x.acc == ca) && x.office != co)=false))
   case atStart=>exact⟨0,Nat.zero_le _,by omega,rfl,(show Aside _ from HBW.out),(show Aside _ from rfl)⟩
   case round =>
    clear HBW;obtain⟨kk,hkk,hg,rfl,BW,M⟩:=hrel;by_cases hlt:kk<l.length
    ·have hltz:(kk:Int)<(l.length:Int):=by omega
     have nX:zIc:=()
     exact s_56
    ·have hltz:¬ (kk:Int)<(l.length:Int):=by omega
     obtain rfl:kk=l.length:=by omega
     have hm0:=M.out;rw[List.take_length] at hm0;have hres:=HR1.out.trans (if_neg (by rw[hm0];exact Bool.false_ne_true));subst hres;go_wp2;go_ret;exact⟨rfl,HG.out.trans BW.out⟩
theorem c_24 {p:Prop} (h:p:=by
 generalize w1.drewN nq=wq at *;obtain⟨c0,c1,c2,c3⟩:=HCE.out wq HBQ.out;have HSS:=uZ (fun W (g:aA wq W)=>(⟨uQ g c0,uQ g c1,uQ g c2,uQ g c3,g⟩:W.cell? ⟨b,off+kk*4,none⟩=some (.int .i64 yu)∧W.cell? ⟨b,off+kk*4+1,none⟩=some (.int .i64 yo)∧W.cell? ⟨b,off+kk*4+2,none⟩=some (.int .i64 ya)∧W.cell? ⟨b,off+kk*4+3,none⟩=some (.int .i64 yn)∧aA wq W));go_cut [5] from 39 to 46 (fun s5 wx=>s5=.int .i64 0∧Aside (aA wq wx))
 case first =>
  go_region_held3 (fun W=>W.cell? ⟨b,off+kk*4,none⟩=some (.int .i64 yu)∧W.cell? ⟨b,off+kk*4+1,none⟩=some (.int .i64 yo)∧W.cell? ⟨b,off+kk*4+2,none⟩=some (.int .i64 ya)∧W.cell? ⟨b,off+kk*4+3,none⟩=some (.int .i64 yn)∧aA wq W) (refine HSS.out _ b_13) (first|(go_at_call 172;(with_reducible refine(KA1.out _ (HBQ.out.trans b_11)).mono ?_);rintro e w2 ⟨rfl,g2⟩;have GZ:=uZ (show aA wq w2 from uY b_11 g2);clear g2))
  exact e_21
 case rest =>
  obtain⟨rfl,hG⟩:=hcut;have HG3:=uZ (HBQ.out.trans hG.out);clear hG c0 c1 c2 c3;go_wp2;go_roundg (l.length-(kk+1))
  case measure=>omega
  case rel=>exact⟨kk+1,by omega,by omega,by go_num,(show Aside _ from HG3.out)⟩
):p:=h
theorem h_204 {p:Prop} (h:p:=by
 exact uZ (fun W (g:aA w W)=>hcell W g kk hlt)
):p:=h
theorem pO (l:List Cm) (c:Cm):iQ l c=if l.any (fun x=>x.unit == c.unit)=true then 6 else iW l c:=by
 unfold iQ iW;by_cases ha:c.acc=0
 ·have e1:(c.acc != 0)=false:=by simp[ha]
  simp only [e1,Bool.false_and,Bool.or_false,if_pos ha];have:(l.any fun _=>false)=false:=by simp
  rw[this];rfl
 ·have e1:(c.acc != 0)=true:=by simp[ha]
  simp only [e1,Bool.true_and,if_neg ha]
  have e2:(l.any fun x=>x.unit == c.unit || (x.acc == c.acc && x.num == c.num))=(l.any (fun x=>x.unit == c.unit) || l.any (fun x=>x.acc == c.acc && x.num == c.num)):=by
   induction l with
   | nil=>rfl
   | cons x r ih =>
    simp only [List.any_cons,ih];cases (x.unit == c.unit)<;>cases (x.acc == c.acc && x.num == c.num)<;>simp
  rw[e2];cases h1:l.any (fun x=>x.unit == c.unit)
  ·simp
  ·simp
theorem yF {l:List Cm} (h:dZ [] l=true) (k:Nat) (hk:k<l.length):iQ (l.take k) l[k]=0:=by
 obtain⟨-,h2,h3⟩:=(mU l).1 h;have hu:∀ j (hj:j<l.length),j<k→l[j].unit<l[k].unit:=fun j hj hjk=>List.pairwise_iff_getElem.1 h2 j k hj hk hjk
 have hn:∀ j (hj:j<l.length),j<k→iY l[j] l[k]:=fun j hj hjk=>List.pairwise_iff_getElem.1 h3 j k hj hk hjk
 have hz:iW (l.take k) l[k]=0:=(qN _ _).2 fun x hx=>by
  obtain⟨j,hj,e⟩:=List.mem_iff_getElem.1 hx;rw[List.length_take] at hj;rw[← e,List.getElem_take];exact hn j b_53 b_53
 have hne:(l.take k).any (fun x=>x.unit == l[k].unit)=false:=by
  rw[List.any_eq_false];intro x hx;obtain⟨j,hj,e⟩:=List.mem_iff_getElem.1 hx;rw[List.length_take] at hj;rw[← e,List.getElem_take];have:=hu j b_53 b_53;simp;omega
 rw[pO,hne,hz];rfl
theorem SlC.takeN {W:World} {A:Option Addr} {n c:Nat} {l:List Cm} (h:SlC W (.slice A n c) l) (k:Nat) (hk:k≤l.length):SlC W (.slice A k c) (l.take k):=by
 obtain⟨A',n',c',hv,hl,hn,hc,h0⟩:=h;cases hv;have hf:=aL Cm.cells 4 (fun _=>rfl) l;have hm:=aL Cm.cells 4 (fun _=>rfl) (l.take k);rw[List.length_take,Nat.min_eq_left hk] at hm;refine⟨A,k,c,rfl,by omega,by omega,hc,fun hpos=>?_⟩;obtain⟨b,off,hA,hb,hcell⟩:=h0 b_53;refine⟨b,off,hA,hb,fun j u hj=>hcell j u ?_⟩;have e:l.flatMap Cm.cells=(l.take k).flatMap Cm.cells++(l.drop k).flatMap Cm.cells:=by rw[← List.flatMap_append,List.take_append_drop]
 rw[e,List.getElem?_append_left (List.getElem?_eq_some_iff.1 hj).1];exact hj
theorem aHd (l:List Cm) (hl:l.length≤256) (hrt:dZ [] l=true) (lv:Value) (w:World) (hv:SlC w lv l):Calls Tryz.prog 213 #[lv] w fun e w'=>e=.returned (.tuple #[.int .i64 (-1),.int .i64 0])∧aA w w':=by
 have HV:=uZ hv;obtain⟨A,n,rfl,hlc,hcap,hr⟩:=hv.open_;unfold maxLen at hcap;have HR:=uZ hr;have HN:=uZ hl;have KF:=uZ (fun c W=>sP c W);have hal:=(mU l).1 hrt;have HAL:=uZ (fun k (h:k<l.length)=>hal.1 _ (List.getElem_mem h));have HPW:=uZ (List.pairwise_iff_getElem.1 hal.2.1)
 have KA:=uZ (fun k (h:k<l.length) W (g:aA w W)=>by
  have:=uO (l.take k) l[k] b_41 _ W ((SlC.takeN hv k b_53).mono g);rw[yF hrt k h] at this
  exact this)
 have hgt:=h_193;clear hv hr hrt hal hl;go_enter Tryz.func213,Tryz.ntmps213;go_wp2;go_loopg [4] l.length (fun gg s4 wr=>∃ kk:Nat,kk≤l.length∧l.length-kk≤gg∧s4=.int .i64 kk∧Aside (aA w wr))
 case atStart=>exact⟨0,Nat.zero_le _,by omega,rfl,(show Aside _ from uX w)⟩
 case round =>
  obtain⟨kk,hkk,hg,rfl,BW⟩:=hrel;have HBW:=uZ BW.out;clear BW;by_cases hlt:kk<l.length
  ·have hltz:(kk:Int)<(l.length:Int):=by omega
   have h0z:=h_214;have hkc:kk≤n:=by omega
   have hkcz:(kk:Int)≤(n:Int):=by omega
   obtain⟨b,off,rfl,hbb,hcell⟩:=HR.out b_53;have HCE:=h_204;obtain⟨c0,c1,c2,c3⟩:=HCE.out wr HBW.out;have KA1:=uZ (KA.out kk hlt);have HAL1:=uZ (HAL.out kk hlt);have HPV:=uZ (fun j (hj:kk=j+1)=>(show l[j].unit<l[kk].unit from HPW.out j kk b_53 hlt b_53));have HCJ:=uZ (fun j (hj:kk=j+1) W (g:aA w W)=>hcell W g j b_53);clear hcell;generalize l[kk]=y at c0 c1 c2 c3 KA1 HAL1 HPV HCE;obtain⟨yu,yo,ya,yn⟩:=y;have KF1:=uZ (KF.out ⟨yu,yo,ya,yn⟩);have hal1:=HAL1.out;rw[hal1] at KF1;unfold Cm.agg at KF1 KA1;dsimp only at c0 c1 c2 c3 KA1 KF1 HPV HCE;clear hal1 HAL1;go_wp2_with fail;clear c0 c1 c2 c3;refine(KF1.out _).mono ?_;rintro e w1 ⟨rfl,g1⟩;have HG1:=uZ (HBW.out.trans g1);clear g1 HBW;dsimp only;obtain⟨c0,c1,c2,c3⟩:=HCE.out w1 HG1.out;rcases Nat.eq_zero_or_pos kk with hk0|hpos
   ·have hd:decide ((0:Int)<(kk:Int))=false:=by rw[decide_eq_false_iff_not];omega
    have hd2:decide (0<kk)=false:=by rw[decide_eq_false_iff_not];omega
    have hd3:¬ (0<kk):=by omega
    clear hk0;go_wp2;go_quiet (fail);go_wp2_with fail;have HBQ:=uZ (HG1.out.drewN nq);clear c0 c1 c2 c3 ;exact c_24
   ·obtain⟨j,hj⟩:∃ j,kk=j+1:=⟨kk-1,by omega⟩
    obtain⟨d0,-⟩:=HCJ.out j hj w1 HG1.out;have hle:=HPV.out j hj;have hd:decide ((0:Int)<(kk:Int))=true:=by rw[decide_eq_true_eq];omega
    have hsub:wrap64 ((kk:Int)-1)=(j:Int):=by
     rw[show((kk:Int)-1)=(j:Int) by omega];unfold wrap64;omega
    have hsub2:IntKind.i64.wrap ((kk:Int)-1)=(j:Int):=by
     rw[show((kk:Int)-1)=(j:Int) by omega];rw[IntKind.wrap_i64];omega
    have h0j:(0:Int)≤(j:Int):=by omega
    have hjl:(j:Int)<(l.length:Int):=by omega
    generalize l[j].unit=pu at d0 hle;have hle2:decide (yu≤pu)=false:=by rw[decide_eq_false_iff_not];omega
    have hd2:decide (0<kk)=true:=decide_eq_true hpos;clear hle hj;go_wp2;go_quiet (fail);go_wp2_with fail;have HBQ:=uZ (HG1.out.drewN nq);clear c0 c1 c2 c3 d0;exact c_24
  ·have hltz:¬ (kk:Int)<(l.length:Int):=by omega
   go_wp2;refine bodyPost_ret (v:=.tuple #[.int .i64 (-1),.int .i64 0]) (by simp[results,Tryz.results213,go_sem]) rfl ⟨rfl,HBW.out⟩
theorem aGw (l:List Cm) (hl:l.length≤256) (hrt:dZ [] l=true) (lv:Value) (w:World) (hv:SlC w lv l):Calls Tryz.prog 170 #[lv] w fun e w'=>e=.returned (.bool true)∧aA w w':=by
 have K:=uZ (aHd l hl hrt lv w hv);obtain⟨A,n,rfl,-⟩:=hv.open_;clear hv hl hrt;go_enter Tryz.func170,Tryz.ntmps170;go_wp2_with fail;refine K.out.mono ?_;rintro e w1 ⟨rfl,g⟩;have HG:=uZ g;clear g;dsimp only;go_wp2;go_ret;exact⟨rfl,HG.out⟩
theorem c_12 {p:Prop} (h:p:=by
 have hpl:((E.take k).flatMap Cm.cells).length=k*4:=by rw[aL Cm.cells 4 (fun _=>rfl),List.length_take,Nat.min_eq_left hk]
 have hsl:((E.drop k).flatMap Cm.cells).length=(E.length-k)*4:=by rw[aL Cm.cells 4 (fun _=>rfl),List.length_drop]
 have hp63:0+k≤maxLen:=by unfold maxLen;omega
 have hpb:(0+k)*32≤140737488355328:=by omega
 have hq63:0+k+1≤maxLen:=by unfold maxLen;omega
 have hqb:(0+k+1)*32≤140737488355328:=by omega
 have hs63:0+k+1+(E.length-k)≤maxLen:=by unfold maxLen;omega
 have hsb:(0+k+1+(E.length-k))*32≤140737488355328:=by omega
 have hone:∀ u∈([.int .i64 y3,.int .i64 y9,.int .i64 y10,.int .i64 y11]:List Value),u.oneCell'=true:=by simp[Value.oneCell']
 have HPL:=uZ hpl;have HSL:=uZ hsl;clear hpl hsl hX hG;have HSX:=uZ (fun W (g:aA wB W)=>(⟨uQ g x0,uQ g x1,uQ g x2,uQ g x3,g⟩:W.cell? ⟨X,0,none⟩=some (.int .i64 y3)∧W.cell? ⟨X,1,none⟩=some (.int .i64 y9)∧W.cell? ⟨X,2,none⟩=some (.int .i64 y10)∧W.cell? ⟨X,3,none⟩=some (.int .i64 y11)∧aA wB W));go_wp2_with fail
 go_region_held3 (fun W=>W.cell? ⟨X,0,none⟩=some (.int .i64 y3)∧W.cell? ⟨X,1,none⟩=some (.int .i64 y9)∧W.cell? ⟨X,2,none⟩=some (.int .i64 y10)∧W.cell? ⟨X,3,none⟩=some (.int .i64 y11)∧aA wB W) (refine HSX.out _ b_8) (first|(refine eM (o:=⟨some 53,_,_,_,_,_⟩) b_55 (.tmp 49) (.tmp 52) 50 b_55 wB 69 k0 (.agg #[.int .i64 0,.int .i64 0,.int .i64 0,.int .i64 0]) 4 32 Tryz.underlying50 hk0 hx0 hx1 hx2 rfl hsz1 _ 0 [] b_55 _ b_14 b_21 _ k _ b_55 (HP.out _ b_21) HPL.out (eJ _) hp63 hpb ?_;intro v1 w1 o1 g1 q1 z1;have O1:=uZ o1;have G1:=uZ g1;have X1:=uZ q1;(try simp at z1);clear o1 g1 q1)|(refine eM (o:=⟨some 56,_,_,_,_,_⟩) b_55 (.tmp 53) (.tmp 55) 50 b_55 wB 69 k0 (.agg #[.int .i64 0,.int .i64 0,.int .i64 0,.int .i64 0]) 4 32 Tryz.underlying50 hk0 hx0 hx1 hx2 rfl hsz1 _ (0+k) ([]++(E.take k).flatMap Cm.cells) b_55 _ b_24 b_15 _ 1 [.int .i64 y3,.int .i64 y9,.int .i64 y10,.int .i64 y11] b_55 b_2 b_54 hone hq63 hqb ?_;intro v2 w2 o2 g2 q2 z2;have O2:=uZ o2;have G2:=uZ g2;clear o2 g2 q2 z2)|(refine eM (o:=⟨some 60,_,_,_,_,_⟩) b_55 (.tmp 56) (.tmp 59) 50 b_55 wB 69 k0 (.agg #[.int .i64 0,.int .i64 0,.int .i64 0,.int .i64 0]) 4 32 Tryz.underlying50 hk0 hx0 hx1 hx2 rfl hsz1 _ (0+k+1) ([]++(E.take k).flatMap Cm.cells++[.int .i64 y3,.int .i64 y9,.int .i64 y10,.int .i64 y11]) b_55 _ O2.out G2.out _ (E.length-k) _ b_55 (HS.out _ G2.out) HSL.out (eJ _) hs63 hsb ?_;intro v3 w3 o3 g3 q3 z3;have O3:=uZ o3;have G3:=uZ g3;clear o3 g3 q3 z3))
 all_goals
  obtain⟨A5,c5,hv5,h5,g5⟩:=aAd (R:=aW (l.take (kk+1))) (c:=⟨y3,y9,y10,y11⟩) O3.out HRES.out G3.out;subst hv5;have HS5:=uZ h5;have HG5:=uZ (HGB.out.trans g5);clear h5 g5 x0 x1 x2 x3 e1 e2;go_wp2;go_roundg (l.length-(kk+1))
  case measure=>omega
  case rel=>exact⟨kk+1,by omega,by omega,by go_num,A5,c5,rfl,(show Aside _ from HS5.out),(show Aside _ from HG5.out)⟩
):p:=h
theorem c_27 {p:Prop} (h:p:=by
 have HSS:=uZ (fun W (g:aA wq W)=>(⟨uQ g c3,uQ g c9,uQ g c10,uQ g c11,g⟩:W.cell? ⟨b,off+kk*12+3,none⟩=some (.int .i64 y3)∧W.cell? ⟨b,off+kk*12+9,none⟩=some (.int .i64 y9)∧W.cell? ⟨b,off+kk*12+9+1,none⟩=some (.int .i64 y10)∧W.cell? ⟨b,off+kk*12+9+2,none⟩=some (.int .i64 y11)∧aA wq W))
 go_region_held3 (fun W=>W.cell? ⟨b,off+kk*12+3,none⟩=some (.int .i64 y3)∧W.cell? ⟨b,off+kk*12+9,none⟩=some (.int .i64 y9)∧W.cell? ⟨b,off+kk*12+9+1,none⟩=some (.int .i64 y10)∧W.cell? ⟨b,off+kk*12+9+2,none⟩=some (.int .i64 y11)∧aA wq W) (refine HSS.out _ b_5) (fail)
 all_goals go_wp2_with fail
 all_goals go_meet
 all_goals with_reducible first|exact aGc b_11|exact aOa (aD b_11 (aO wq _)) b_11|exact aGb (aD b_11 (aO wq _)) (Nat.le_refl _) b_11
):p:=h
theorem s_44 {p:Prop} (h:p:=by
 obtain⟨X,rfl,hX,hG⟩:=hcut;have x0:wc.cell? ⟨X,0,none⟩=some (.int .i64 y3):=aC hX rfl;have x1:wc.cell? ⟨X,1,none⟩=some (.int .i64 y9):=aC hX rfl;have x2:wc.cell? ⟨X,2,none⟩=some (.int .i64 y10):=aC hX rfl;have x3:wc.cell? ⟨X,3,none⟩=some (.int .i64 y11):=aC hX rfl;obtain⟨wB,hwB⟩:∃ wB,wB=wc:=⟨_,rfl⟩
 subst hwB;have HV:=uZ (HES.out.mono (HBQ.out.trans hG));have HGB:=uZ (HGW.out.trans (HBQ.out.trans hG));obtain⟨EA2,ec2,hEA,hel2,hec2,-⟩:=HV.out.open_;exact nX.g
):p:=h
theorem aFn (c:Cm):∀(l:List Cm) (k:Nat),k≤l.length→(∀ j (h:j<l.length),j<k→l[j].unit<c.unit)→(∀ h:k<l.length,¬ l[k].unit<c.unit)→jR c l=l.take k++c::l.drop k
 | [],k,hk,_,_=>by
  obtain rfl:k=0:=by simpa using hk
  rfl
 | x::r,0,_,_,h2=>by
  rw[jR,if_neg (show ¬ x.unit<c.unit from h2 b_54)];rfl
 | x::r,k+1,hk,h1,h2=>by
  rw[jR,if_pos (show x.unit<c.unit from h1 0 b_54 b_53),aFn c r k (by simpa using hk) (fun j h hj=>h1 (j+1) b_49 b_53) (fun h=>h2 b_49)];rfl
theorem tG:∀ l:List Opn,(aW l).length≤l.length:=by
 have:∀(n:Nat) (l:List Opn),l.length=n→(aW l).length≤l.length:=by
  intro n
  induction n with
  | zero=>intro l h;obtain rfl:=List.eq_nil_of_length_eq_zero h;exact Nat.le_refl _
  | succ n ih =>
   intro l h;obtain⟨m,x,rfl⟩:∃ m x,l=m++[x]:=⟨l.dropLast,l.getLast (by intro e;rw[e] at h;cases h),(List.dropLast_concat_getLast _).symm⟩
   rw[List.length_append,List.length_singleton] at h ⊢;have:=ih m b_53;rw[gY];split
   ·rw[sX];omega
   ·omega
 exact fun l=>this _ l rfl
theorem aMn {w:World} {base:Nat} {v:Value} {p q:List Cm} {c:Cm} {m:Nat} (h:w.ownsRow base 69 4 v m ([]++p.flatMap Cm.cells++c.cells++q.flatMap Cm.cells)):SlC w v (p++c::q):=by
 have e:([]++p.flatMap Cm.cells++c.cells++q.flatMap Cm.cells)=(p++c::q).flatMap Cm.cells:=by simp
 rw[e] at h;exact Rd.of_own h
theorem aFz:(Tryz.prog.info? 69).map (fun i=>(i.zero,i.size,i.bytes))=some (some (.agg #[.int .i64 0,.int .i64 0,.int .i64 0,.int .i64 0]),4,32):=by kernel_rfl
theorem bEd {W:World} {P:Nat} {t:TypeId} {x0 x1 x2 x3:Value} (h:W.heap[P]? = some (.cells #[x0,x1,x2,x3] t (0,0))) (y0 y1 y2 y3:Value):((((W.setCell ⟨P,0,none⟩ y0).setCell ⟨P,1,none⟩ y1).setCell ⟨P,2,none⟩ y2).setCell ⟨P,3,none⟩ y3).heap[P]? = some (.cells #[y0,y1,y2,y3] t (0,0)):=by
 have h1:=heap_setCell_same W P 0 _ t y0 h;have h2:=heap_setCell_same _ P 1 _ t y1 h1;have h3:=heap_setCell_same _ P 2 _ t y2 h2;have h4:=heap_setCell_same _ P 3 _ t y3 h3;simpa using h4
def bBk (W0:World) (cs:Array Value) (s6:Value) (wx:World):Prop:=∃ X,s6=.pointer (some ⟨X,0,none⟩)∧wx.heap[X]? = some (.cells cs 69 (0,0))∧aA W0 wx
theorem aGc {W0 W:World} {cs:Array Value} (g:aA W0 W):bBk W0 cs (.pointer (some ⟨W.heap.size,0,none⟩)) (W.alloc (.cells cs 69)):=⟨_,rfl,aO _ _,g.alloc _⟩
theorem aOa {W0 W:World} {X:Nat} {cs:Array Value} (h:W.heap[X]? = some (.cells cs 69 (0,0))) (g:aA W0 W):bBk W0 cs (.pointer (some ⟨X,0,none⟩)) W:=⟨X,rfl,h,g⟩
theorem aGb {W0 W:World} {X:Nat} {x0 x1 x2 x3 y0 y1 y2 y3:Value} (h:W.heap[X]? = some (.cells #[x0,x1,x2,x3] 69 (0,0))) (hX:W0.heap.size≤X) (g:aA W0 W):bBk W0 #[y0,y1,y2,y3] (.pointer (some ⟨X,0,none⟩)) ((((W.setCell ⟨X,0,none⟩ y0).setCell ⟨X,1,none⟩ y1).setCell ⟨X,2,none⟩ y2).setCell ⟨X,3,none⟩ y3) :=
 ⟨X,rfl,bEd h y0 y1 y2 y3,(((g.setCell (p:=⟨X,0,none⟩) hX _).setCell (p:=⟨X,1,none⟩) hX _).setCell (p:=⟨X,2,none⟩) hX _).setCell (p:=⟨X,3,none⟩) hX _⟩
def bBj (W0:World) (R:List Cm) (s3:Value) (wx:World):Prop:=∃ A c,s3=.slice A R.length c∧SlC wx (.slice A R.length c) R∧aA W0 wx
theorem aAd {W0 w:World} {base:Nat} {v:Value} {p q R:List Cm} {c:Cm} {m:Nat} (h:w.ownsRow base 69 4 v m ([]++p.flatMap Cm.cells++c.cells++q.flatMap Cm.cells)) (hR:R=p++c::q) (g:aA W0 w):bBj W0 R v w:=by
 subst hR;have h2:=aMn h;obtain⟨A,c,hv,-⟩:=h2.open_;subst hv;exact⟨A,c,rfl,h2,g⟩
def zHb:=Unit
theorem zHb.g {p:Prop} (_:zHb) (h:p:=by
 cases hEA;have hsz1:0<4:=by omega
 have e1:=lX Tryz.underlying50 hk0 (some ⟨eb,eoff,none⟩) E.length ec k hk hel2;have e2:=iT Tryz.underlying50 hk0 hx1 (some ⟨eb,eoff,none⟩) E.length ec k hk
 have HP:RowKit.Hid (∀ W,aA wB W→Rd W 4 (.slice (some ⟨eb,eoff,none⟩) k ec) ((E.take k).flatMap Cm.cells)):=fun W hW=>by
  have h:=lU (Rd.mono HV.out hW) hk;rw[(cT (f:=Cm.cells) (k:=4) (fun _=>rfl) E k).1] at h;exact h
 have HS:RowKit.Hid (∀ W,aA wB W→Rd W 4 (yY (some ⟨eb,eoff,none⟩) E.length ec k 4) ((E.drop k).flatMap Cm.cells)):=fun W hW=>by
  have h:=oA (Rd.mono HV.out hW) hk;rw[(cT (f:=Cm.cells) (k:=4) (fun _=>rfl) E k).2] at h;exact h
 generalize yY (some ⟨eb,eoff,none⟩) E.length ec k 4=V2 at e2 HS;exact c_12
):p:=h
def zHc:=Unit
theorem zHc.g {p:Prop} (_:zHc) (h:p:=by
 cases hEA;have hsz1:0<4:=by omega
 have e1:=lX Tryz.underlying50 hk0 EA E.length ec k hk hel2;have e2:=iT Tryz.underlying50 hk0 hx1 EA E.length ec k hk
 have HP:RowKit.Hid (∀ W,aA wB W→Rd W 4 (.slice EA k ec) ((E.take k).flatMap Cm.cells)):=fun W hW=>by
  have h:=lU (Rd.mono HV.out hW) hk;rw[(cT (f:=Cm.cells) (k:=4) (fun _=>rfl) E k).1] at h;exact h
 have HS:RowKit.Hid (∀ W,aA wB W→Rd W 4 (yY EA E.length ec k 4) ((E.drop k).flatMap Cm.cells)):=fun W hW=>by
  have h:=oA (Rd.mono HV.out hW) hk;rw[(cT (f:=Cm.cells) (k:=4) (fun _=>rfl) E k).2] at h;exact h
 generalize yY EA E.length ec k 4=V2 at e2 HS;exact c_12
):p:=h
theorem oE (l:List Opn) (hlen:l.length≤1000000) (lv:Value) (w:World) (hv:SlO w lv l):Calls Tryz.prog 53 #[lv] w fun e w'=>∃ v,e=.returned v∧SlC w' v (aW l)∧aA w w':=by
 obtain⟨A,c,rfl,hlc,hcap,hr⟩:=hv.open_;unfold maxLen at hcap;obtain⟨k0,hk0,hx0,hx1,hx2⟩:=info_parts aFz;have HR:=uZ hr;have HN:=uZ hlen;have HST:=uZ (fun k (h:k<l.length)=>(by rw[List.take_succ_eq_append_getElem h,gY]:aW (l.take (k+1))=if l[k].kind=1 then jR l[k].came (aW (l.take k)) else aW (l.take k)));have HEL:=uZ (fun k=>(Nat.le_trans (tG (l.take k)) (List.length_take_le k l):(aW (l.take k)).length≤k));have HE:=uZ (by rw[List.take_length]:aW (l.take l.length)=aW l);generalize aW l=RES at HE ⊢;clear hv hr hlen;go_enter Tryz.func53,Tryz.ntmps53;go_wp2;go_loopg [3,4] l.length (fun gg s3 s4 wr=>∃ kk:Nat,kk≤l.length∧l.length-kk≤gg∧s4=.int .i64 kk∧∃ A c,s3=.slice A (aW (l.take kk)).length c∧Aside (SlC wr (.slice A (aW (l.take kk)).length c) (aW (l.take kk)))∧Aside (aA w wr))
 case atStart=>exact⟨0,by omega,by omega,rfl,none,0,rfl,(show Aside _ from SlC.nil _),(show Aside _ from uX w)⟩
 case round =>
  obtain⟨kk,hkk,hgk,rfl,EA,ec,rfl,ES,GW⟩:=hrel;have HES:=uZ ES.out;have HGW:=uZ GW.out;have hN:=HN.out;have hel:=HEL.out kk;clear ES GW;by_cases hlt:kk<l.length
  case neg =>
   have hltz:=h_197;obtain rfl:kk=l.length:=by omega
   have he:=HE.out;rw[he] at HES ⊢;clear he HE;go_wp2;go_ret;exact⟨_,rfl,HES.out,HGW.out⟩
  case pos =>
   have hltz:=h_201;have h0z:=h_214;obtain⟨b,off,rfl,hbb,hcell⟩:=HR.out b_53;have HCE:=h_204;have HSK:=uZ (HST.out kk hlt);clear hcell;generalize aW (l.take kk)=E at HES HSK hel ⊢;generalize l[kk]=y at HCE HSK;obtain⟨y0,y1,y2,y3,y4,y5,y6,y7,y8,y9,y10,y11⟩:=y;unfold Opn.came at HSK;dsimp only at HCE HSK;by_cases hk1:y2=1
   case neg =>
    have hb1:(y2 == 1)=false:=by simpa using hk1
    have HQ:=uZ (HSK.out.trans (if_neg hk1));clear HSK;obtain⟨-,-,c2,-⟩:=HCE.out wr HGW.out;go_wp2;go_roundg (l.length-(kk+1))
    case measure=>omega
    case rel =>
     refine⟨kk+1,by omega,by omega,by go_num,EA,ec,?_⟩;rw[HQ.out];exact⟨rfl,(show Aside _ from HES.out),(show Aside _ from HGW.out)⟩
   case pos =>
    subst hk1;have HQ:=uZ (HSK.out.trans (if_pos rfl));have HIA:=uZ (aFn ⟨y3,y9,y10,y11⟩ E);obtain⟨EA',ec',hEA0,hel0,hec0,her0⟩:=HES.out.open_;cases hEA0;unfold maxLen at hec0;have HER:=uZ her0;obtain⟨-,-,c2,-⟩:=HCE.out wr HGW.out;clear HSK her0;go_wp2;clear c2;go_loopg [5] E.length (fun gg s5 wq=>∃ k:Nat,k≤E.length∧E.length-k≤gg∧s5=.int .i64 k∧Aside (aA wr wq)∧Aside (∀ j (h:j<E.length),j<k→E[j].unit<y3))
    case atStart=>exact⟨0,Nat.zero_le _,by omega,rfl,(show Aside _ from uX _),(show Aside _ from fun j h hj=>absurd hj (Nat.not_lt_zero _))⟩
    case round =>
     obtain⟨k,hk,hgk2,rfl,BW,M⟩:=hrel;have HBW:=uZ BW.out;have h0k:=h_216;obtain⟨-,-,-,c3,-⟩:=HCE.out _ (HGW.out.trans HBW.out);clear BW;by_cases hlk:k<E.length
     ·have hlkz:(k:Int)<(E.length:Int):=by omega
      obtain⟨eb,eoff,rfl,heb,hecell⟩:=HER.out b_53;obtain⟨d0,-⟩:=hecell _ HBW.out k hlk;by_cases hlu:E[k].unit<y3
      ·have HNX:=uZ (show ∀ j (h:j<E.length),j<k+1→E[j].unit<y3 from fun j h hj=>by
        by_cases e:j=k
        ·subst e;exact hlu
        ·exact M.out j h b_53)
       generalize E[k].unit=eu at d0 hlu;have hd:decide (eu<y3)=true:=decide_eq_true hlu;clear hecell M hlu;go_wp2;go_quiet (fail);go_wp2;go_roundg (E.length-(k+1))
       case measure=>omega
       case rel=>exact⟨k+1,by omega,by omega,by go_num,(show Aside _ from HBW.out.drewN _),(show Aside _ from HNX.out)⟩
      ·have HRES:=uZ (HQ.out.trans (HIA.out k hk M.out (fun _=>by first|exact hlu|exact Int.not_lt.1 hlu)))
       generalize E[k].unit=eu at d0 hlu;have hd:decide (eu<y3)=false:=decide_eq_false hlu;clear hecell M hlu;go_wp2;go_quiet (fail);go_wp2_with fail;have HBQ:=uZ (HBW.out.drewN nq);clear c3;generalize wr.drewN nq=wq at *;obtain⟨-,-,-,c3,-,-,-,-,-,c9,c10,c11⟩:=HCE.out _ (HGW.out.trans HBQ.out);go_cut [6] from 38 to 48 (fun s6 wx=>bBk wq #[.int .i64 y3,.int .i64 y9,.int .i64 y10,.int .i64 y11] s6 wx)
       case first =>
        exact c_27
       case rest =>
        have nX:zHb:=()
        exact s_44
     ·have hlkz:¬ (k:Int)<(E.length:Int):=by omega
      have HRES:=uZ (HQ.out.trans (HIA.out k hk M.out (fun h=>absurd h hlk)));clear M;go_wp2;go_quiet (fail);go_wp2_with fail;have HBQ:=uZ (HBW.out.drewN nq);clear c3;generalize wr.drewN nq=wq at *;obtain⟨-,-,-,c3,-,-,-,-,-,c9,c10,c11⟩:=HCE.out _ (HGW.out.trans HBQ.out);go_cut [6] from 38 to 48 (fun s6 wx=>bBk wq #[.int .i64 y3,.int .i64 y9,.int .i64 y10,.int .i64 y11] s6 wx)
      case first =>
       exact c_27
      case rest =>
       have nX:zHc:=()
       exact s_44
theorem c_13 {p:Prop} (h:p:=by
 have hpl:((l.take k).flatMap Cm.cells).length=k*4:=by rw[aL Cm.cells 4 (fun _=>rfl),List.length_take,Nat.min_eq_left hk]
 have hsl:((l.drop k).flatMap Cm.cells).length=(l.length-k)*4:=by rw[aL Cm.cells 4 (fun _=>rfl),List.length_drop]
 have hp63:0+k≤maxLen:=by unfold maxLen;omega
 have hpb:(0+k)*32≤140737488355328:=by omega
 have hq63:0+k+1≤maxLen:=by unfold maxLen;omega
 have hqb:(0+k+1)*32≤140737488355328:=by omega
 have hs63:0+k+1+(l.length-k)≤maxLen:=by unfold maxLen;omega
 have hsb:(0+k+1+(l.length-k))*32≤140737488355328:=by omega
 have hone:∀ u∈([.int .i64 cu,.int .i64 co,.int .i64 ca,.int .i64 cn]:List Value),u.oneCell'=true:=by simp[Value.oneCell']
 have HPL:=uZ hpl;have HSL:=uZ hsl;clear hpl hsl hX hG;have HSX:=uZ (fun W (g:aA wB W)=>(⟨uQ g x0,uQ g x1,uQ g x2,uQ g x3,g⟩:W.cell? ⟨X,0,none⟩=some (.int .i64 cu)∧W.cell? ⟨X,1,none⟩=some (.int .i64 co)∧W.cell? ⟨X,2,none⟩=some (.int .i64 ca)∧W.cell? ⟨X,3,none⟩=some (.int .i64 cn)∧aA wB W));go_wp2_with fail
 go_region_held3 (fun W=>W.cell? ⟨X,0,none⟩=some (.int .i64 cu)∧W.cell? ⟨X,1,none⟩=some (.int .i64 co)∧W.cell? ⟨X,2,none⟩=some (.int .i64 ca)∧W.cell? ⟨X,3,none⟩=some (.int .i64 cn)∧aA wB W) (refine HSX.out _ b_8) (first|(refine eM (o:=⟨some 43,_,_,_,_,_⟩) b_55 (.tmp 39) (.tmp 42) 50 b_55 wB 69 k0 (.agg #[.int .i64 0,.int .i64 0,.int .i64 0,.int .i64 0]) 4 32 Tryz.underlying50 hk0 hx0 hx1 hx2 rfl hsz1 _ 0 [] b_55 _ b_14 b_21 _ k _ b_55 (HP.out _ b_21) HPL.out (eJ _) hp63 hpb ?_;intro v1 w1 o1 g1 q1 z1;have O1:=uZ o1;have G1:=uZ g1;have X1:=uZ q1;(try simp at z1);clear o1 g1 q1)|(refine eM (o:=⟨some 46,_,_,_,_,_⟩) b_55 (.tmp 43) (.tmp 45) 50 b_55 wB 69 k0 (.agg #[.int .i64 0,.int .i64 0,.int .i64 0,.int .i64 0]) 4 32 Tryz.underlying50 hk0 hx0 hx1 hx2 rfl hsz1 _ (0+k) ([]++(l.take k).flatMap Cm.cells) b_55 _ b_24 b_15 _ 1 [.int .i64 cu,.int .i64 co,.int .i64 ca,.int .i64 cn] b_55 b_2 b_54 hone hq63 hqb ?_;intro v2 w2 o2 g2 q2 z2;have O2:=uZ o2;have G2:=uZ g2;clear o2 g2 q2 z2)|(refine eM (o:=⟨some 50,_,_,_,_,_⟩) b_55 (.tmp 46) (.tmp 49) 50 b_55 wB 69 k0 (.agg #[.int .i64 0,.int .i64 0,.int .i64 0,.int .i64 0]) 4 32 Tryz.underlying50 hk0 hx0 hx1 hx2 rfl hsz1 _ (0+k+1) ([]++(l.take k).flatMap Cm.cells++[.int .i64 cu,.int .i64 co,.int .i64 ca,.int .i64 cn]) b_55 _ O2.out G2.out _ (l.length-k) _ b_55 (HS.out _ G2.out) HSL.out (eJ _) hs63 hsb ?_;intro v3 w3 o3 g3 q3 z3;have O3:=uZ o3;have G3:=uZ g3;clear o3 g3 q3 z3))
 all_goals
  obtain⟨A5,n5,k5,hv5⟩:=aLh O3.out;subst hv5;have HG5:=uZ (HGB.out.trans G3.out);clear x0 x1 x2 x3 e1 e2;go_wp2;refine bodyPost_ret (v:=.tuple #[.slice A5 n5 k5,.int .i64 0]) (by simp[results,Tryz.results119,go_sem]) rfl ⟨_,_,_,rfl,HG5.out⟩
):p:=h
theorem s_46 {p:Prop} (h:p:=by
 have hBQ:=HBW.out.drewN nq;generalize wr.drewN nq=wB at *;have HGB:=uZ (HG3.out.trans hBQ);have hX:=aD hBQ HX3.out;have hG:=hBQ;have x0:wB.cell? ⟨X,0,none⟩=some (.int .i64 cu):=aC hX rfl;have x1:wB.cell? ⟨X,1,none⟩=some (.int .i64 co):=aC hX rfl;have x2:wB.cell? ⟨X,2,none⟩=some (.int .i64 ca):=aC hX rfl;have x3:wB.cell? ⟨X,3,none⟩=some (.int .i64 cn):=aC hX rfl;have HV:=uZ (HVL.out.mono HGB.out);obtain⟨EA2,ec2,hEA,hel2,hec2,-⟩:=HV.out.open_;exact nX.g
):p:=h
theorem aLh {w:World} {B:Nat} {e:TypeId} {k:Nat} {v:Value} {m:Nat} {xs:List Value} (h:w.ownsRow B e k v m xs):∃ A n c,v=.slice A n c:=by
 obtain⟨A,c,rfl⟩:=aJ h;exact⟨_,_,_,rfl⟩
theorem aEc {l:List Cm} {c:Cm} (hl:l.length≤256) (hr:dZ [] l=true) (ha:iA c=true):sB l c=if iQ l c≠0 then iQ l c else if 256≤l.length then 8 else 0:=by
 unfold sB;rw[if_neg (by rw[hr];simp;omega),if_neg (by rw[ha];exact Bool.noConfusion),pO];by_cases h:l.any (fun x=>x.unit == c.unit)=true
 ·rw[if_pos h,if_pos h,if_pos b_52]
 ·rw[if_neg h,if_neg h]
def zHf:=Unit
theorem zHf.g {p:Prop} (_:zHf) (h:p:=by
 cases hEA;have hsz1:0<4:=by omega
 have e1:=lX Tryz.underlying50 hk0 (some ⟨eb,eoff,none⟩) l.length n k hk hel2;have e2:=iT Tryz.underlying50 hk0 hx1 (some ⟨eb,eoff,none⟩) l.length n k hk
 have HP:RowKit.Hid (∀ W,aA wB W→Rd W 4 (.slice (some ⟨eb,eoff,none⟩) k n) ((l.take k).flatMap Cm.cells)):=fun W hW=>by
  have h:=lU (Rd.mono HV.out hW) hk;rw[(cT (f:=Cm.cells) (k:=4) (fun _=>rfl) l k).1] at h;exact h
 have HS:RowKit.Hid (∀ W,aA wB W→Rd W 4 (yY (some ⟨eb,eoff,none⟩) l.length n k 4) ((l.drop k).flatMap Cm.cells)):=fun W hW=>by
  have h:=oA (Rd.mono HV.out hW) hk;rw[(cT (f:=Cm.cells) (k:=4) (fun _=>rfl) l k).2] at h;exact h
 generalize yY (some ⟨eb,eoff,none⟩) l.length n k 4=V2 at e2 HS;exact c_13
):p:=h
def zHg:=Unit
theorem zHg.g {p:Prop} (_:zHg) (h:p:=by
 cases hEA;have hsz1:0<4:=by omega
 have e1:=lX Tryz.underlying50 hk0 A l.length n k hk hel2;have e2:=iT Tryz.underlying50 hk0 hx1 A l.length n k hk
 have HP:RowKit.Hid (∀ W,aA wB W→Rd W 4 (.slice A k n) ((l.take k).flatMap Cm.cells)):=fun W hW=>by
  have h:=lU (Rd.mono HV.out hW) hk;rw[(cT (f:=Cm.cells) (k:=4) (fun _=>rfl) l k).1] at h;exact h
 have HS:RowKit.Hid (∀ W,aA wB W→Rd W 4 (yY A l.length n k 4) ((l.drop k).flatMap Cm.cells)):=fun W hW=>by
  have h:=oA (Rd.mono HV.out hW) hk;rw[(cT (f:=Cm.cells) (k:=4) (fun _=>rfl) l k).2] at h;exact h
 generalize yY A l.length n k 4=V2 at e2 HS;exact c_13
):p:=h
theorem aQa (l:List Cm) (c:Cm) (hl:l.length≤256) (hrt:dZ [] l=true) (hal:iA c=true) (lv:Value) (w:World) (hv:SlC w lv l):Calls Tryz.prog 119 #[lv,c.agg] w fun e w'=>∃ A n k,e=.returned (.tuple #[.slice A n k,.int .i64 (sB l c)])∧aA w w':=by
 have KR:=uZ (fun W (g:aA w W)=>aGw l hl hrt lv W (hv.mono g));have KF:=uZ (fun W=>sP c W);have KA:=uZ (fun W (g:aA w W)=>uO l c b_53 lv W (hv.mono g));have HA0:=uZ (aEc hl hrt hal);have HVL:=uZ hv;have hal':=KF.out;rw[hal] at hal';have KF1:=uZ hal';obtain⟨A,n,rfl,hlc,hcap,hr⟩:=hv.open_;unfold maxLen at hcap;obtain⟨k0,hk0,hx0,hx1,hx2⟩:=info_parts aFz;have HER:=uZ hr;have HN:=uZ hl;generalize iQ l c=G at KA HA0;generalize sB l c=RES at HA0 ⊢;obtain⟨cu,co,ca,cn⟩:=c;unfold Cm.agg at KF1 KA ⊢;dsimp only at KF1 KA ⊢;have HX0:=h_143;have HG0:=h_133;clear hv hr hl hrt hal hal' KF;go_enter Tryz.func119,Tryz.ntmps119;go_wp2_with fail;generalize w.alloc (.cells #[.int .i64 cu,.int .i64 co,.int .i64 ca,.int .i64 cn] 69)=w0 at *;generalize w.heap.size=X at *;refine(KR.out _ HG0.out).mono ?_;rintro e w1 ⟨rfl,g1⟩;have HG1:=h_229;have HX1:=uZ (aD g1 HX0.out);clear g1 HG0 HX0 KR;dsimp only;have y0:w1.cell? ⟨X,0,none⟩=some (.int .i64 cu):=aC HX1.out rfl;have y1:w1.cell? ⟨X,1,none⟩=some (.int .i64 co):=aC HX1.out rfl;have y2:w1.cell? ⟨X,2,none⟩=some (.int .i64 ca):=aC HX1.out rfl;have y3:w1.cell? ⟨X,3,none⟩=some (.int .i64 cn):=aC HX1.out rfl;go_wp2_with fail;clear y0 y1 y2 y3;refine(KF1.out _).mono ?_;rintro e w2 ⟨rfl,g2⟩;have HG2:=uZ (HG1.out.trans g2);have HX2:=uZ (aD g2 HX1.out);clear g2 HG1 HX1 KF1;dsimp only;have y0:w2.cell? ⟨X,0,none⟩=some (.int .i64 cu):=aC HX2.out rfl;have y1:w2.cell? ⟨X,1,none⟩=some (.int .i64 co):=aC HX2.out rfl;have y2:w2.cell? ⟨X,2,none⟩=some (.int .i64 ca):=aC HX2.out rfl;have y3:w2.cell? ⟨X,3,none⟩=some (.int .i64 cn):=aC HX2.out rfl;go_wp2_with fail;clear y0 y1 y2 y3;refine(KA.out _ HG2.out).mono ?_;rintro e w3 ⟨rfl,g3⟩;have HG3:=uZ (HG2.out.trans g3);have HX3:=uZ (aD g3 HX2.out);clear g3 HG2 HX2 KA;dsimp only;by_cases hg0:G=0
 case neg =>
  have hb:(G != 0)=true:=by simpa using hg0
  have hres:=HA0.out.trans (if_pos hg0);subst hres;clear hg0;go_wp2;refine bodyPost_ret (v:=.tuple #[.slice none 0 0,.int .i64 RES]) (by simp[results,Tryz.results119,go_sem]) rfl ⟨_,_,_,rfl,HG3.out⟩
 case pos =>
  subst hg0;have hb:=h_218;have HA1:=uZ (HA0.out.trans (if_neg b_52));clear HA0;have hN:=HN.out;by_cases hm:256≤l.length
  case pos =>
   have hb2:((l.length:Int) == 256)=true:=by rw[beq_iff_eq];omega
   have hb3:(l.length:Int)=256:=by omega
   have hres:=HA1.out.trans (if_pos hm);subst hres;clear hm;go_wp2;refine bodyPost_ret (v:=.tuple #[.slice none 0 0,.int .i64 8]) (by simp[results,Tryz.results119,go_sem]) rfl ⟨_,_,_,rfl,HG3.out⟩
  case neg =>
   have hb2:((l.length:Int) == 256)=false:=by rw[beq_eq_false_iff_ne];omega
   have hb3:¬ (l.length:Int)=256:=by omega
   have hres:=HA1.out.trans (if_neg hm);subst hres;clear hm;go_wp2_with fail;go_loopg [7] l.length (fun gg s7 wr=>∃ k:Nat,k≤l.length∧l.length-k≤gg∧s7=.int .i64 k∧Aside (aA w3 wr))
   case atStart=>exact⟨0,Nat.zero_le _,by omega,rfl,(show Aside _ from uX _)⟩
   case round =>
    obtain⟨k,hk,hgk2,rfl,BW⟩:=hrel;have HBW:=uZ BW.out;have h0k:=h_216;have hX:=aD HBW.out HX3.out;have y0:wr.cell? ⟨X,0,none⟩=some (.int .i64 cu):=aC hX rfl;clear BW;by_cases hlk:k<l.length
    ·have hlkz:(k:Int)<(l.length:Int):=by omega
     obtain⟨eb,eoff,rfl,heb,hecell⟩:=HER.out b_53;obtain⟨d0,-⟩:=hecell _ (HG3.out.trans HBW.out) k hlk;by_cases hlu:l[k].unit<cu
     ·generalize l[k].unit=eu at d0 hlu
      have hd:decide (eu<cu)=true:=decide_eq_true hlu;clear hecell hlu;go_wp2;go_quiet (fail);go_wp2;go_roundg (l.length-(k+1))
      case measure=>omega
      case rel=>exact⟨k+1,by omega,by omega,by go_num,(show Aside _ from HBW.out.drewN _)⟩
     ·generalize l[k].unit=eu at d0 hlu
      have hd:decide (eu<cu)=false:=decide_eq_false hlu;clear hecell hlu;go_wp2;go_quiet (fail);go_wp2_with fail;clear d0 y0 hX;have nX:zHf:=()
      exact s_46
    ·have hlkz:¬ (k:Int)<(l.length:Int):=by omega
     go_wp2;go_quiet (fail);go_wp2_with fail;clear y0 hX;have nX:zHg:=()
     exact s_46
theorem c_80 {p:Prop} (h:p:=by
 go_wp2;go_quiet (fail);go_wp2;go_roundg (l.length-(kk+1))
 case measure=>omega
 case rel=>exact⟨kk+1,by omega,by omega,by go_num,(show Aside _ from HBW.out.drewN _)⟩
):p:=h
theorem aId {l:List Opn} (hA:gD l) {o:Opn} (hf:aP o=true) (hk:o.kind=1) (k:Nat) (h:k<l.length) (h1:l[k].kind=1) (h2:l[k].unit=o.unit):sB (aW l) o.came=6:=by
 refine aBg hA hf hk ?_;have h3:=aTi (pH hA) (aWi (List.getElem_mem h) h1);rw[show(l[k]'h).came.unit=o.unit from h2] at h3;rw[h3];rfl
theorem aHa (l:List Opn) (o:Opn) (hA:gD l) (hf:aP o=true) (hk:o.kind=1) (hlen:l.length≤1000000) (lv:Value) (w:World) (hv:SlO w lv l):Calls Tryz.prog 84 #[lv,o.agg] w fun e w'=>e=.returned (.int .i64 (sB (aW l) o.came))∧aA w w':=by
 have KE:=uZ (fun W (g:aA w W)=>oE l hlen lv W (hv.mono g));have KAD:=uZ (fun v W (h:SlC W v (aW l))=>aQa (aW l) o.came (nD hA).1 (nD hA).2 (qX hf hk) v W h);have H6:=uZ (aId hA hf hk);obtain⟨A,c,rfl,hlc,hcap,hr⟩:=hv.open_;unfold maxLen at hcap;have HR:=uZ hr;have HN:=uZ hlen;generalize aW l=EV at KE KAD H6 ⊢;unfold Opn.came at KAD H6 ⊢;generalize sB EV ⟨o.unit,o.office,o.acc,o.num⟩=RES at KAD H6 ⊢;obtain⟨o0,o1,o2,o3,o4,o5,o6,o7,o8,o9,o10,o11⟩:=o;unfold Opn.agg;unfold Cm.agg at KAD;dsimp only at KAD H6 hk ⊢;have HX0:=h_32;have HG0:=h_26;clear hv hr hf hA hk hlen;go_enter Tryz.func84,Tryz.ntmps84;go_wp2_with fail;generalize w.alloc (.cells #[.int .i64 o0,.int .i64 o1,.int .i64 o2,.int .i64 o3,.int .i64 o4,.int .i64 o5,.int .i64 o6,.string o7,.string o8,.int .i64 o9,.int .i64 o10,.int .i64 o11] 26)=w0 at *;generalize w.heap.size=XB at *;go_loopg [5] l.length (fun gg s5 wr=>∃ kk:Nat,kk≤l.length∧l.length-kk≤gg∧s5=.int .i64 kk∧Aside (aA w0 wr))
 case atStart=>exact⟨0,Nat.zero_le _,by omega,rfl,(show Aside _ from uX w0)⟩
 case round =>
  obtain⟨kk,hkk,hg,rfl,BW⟩:=hrel;have HBW:=uZ BW.out;have hN:=HN.out;clear BW;by_cases hlt:kk<l.length
  ·have hltz:(kk:Int)<(l.length:Int):=by omega
   have h0z:=h_214;obtain⟨b,off,rfl,hbb,hcell⟩:=HR.out b_53;obtain⟨-,-,c2,c3,-⟩:=hcell wr (HG0.out.trans HBW.out) kk hlt;have x3:wr.cell? ⟨XB,3,none⟩=some (.int .i64 o3):=aC (aD HBW.out HX0.out) rfl;have H6K:=uZ (H6.out kk hlt);clear hcell;generalize l[kk]=y at c2 c3 H6K;obtain⟨y0,y1,y2,y3,y4,y5,y6,y7,y8,y9,y10,y11⟩:=y;dsimp only at c2 c3 H6K;cases h1:(y2 == 1)
   ·clear H6K
    exact c_80
   ·cases h2:(y3 == o3)
    ·clear H6K
     exact c_80
    ·have hres:=H6K.out (eq_of_beq h1) (eq_of_beq h2)
     subst hres;clear H6K;go_wp2;go_quiet (fail);go_wp2;go_ret;exact⟨rfl,HG0.out.trans (HBW.out.drewN _)⟩
  ·have hltz:¬ (kk:Int)<(l.length:Int):=by omega
   have HGQ:=uZ (HG0.out.trans HBW.out);have hX:=aD HBW.out HX0.out;have x3:wr.cell? ⟨XB,3,none⟩=some (.int .i64 o3):=aC hX rfl;have x9:wr.cell? ⟨XB,9,none⟩=some (.int .i64 o9):=aC hX rfl;have x10:wr.cell? ⟨XB,10,none⟩=some (.int .i64 o10):=aC hX rfl;have x11:wr.cell? ⟨XB,11,none⟩=some (.int .i64 o11):=aC hX rfl;have HSS:=uZ (fun W (g:aA wr W)=>(⟨uQ g x3,uQ g x9,uQ g x10,uQ g x11,g⟩:W.cell? ⟨XB,3,none⟩=some (.int .i64 o3)∧W.cell? ⟨XB,9,none⟩=some (.int .i64 o9)∧W.cell? ⟨XB,10,none⟩=some (.int .i64 o10)∧W.cell? ⟨XB,11,none⟩=some (.int .i64 o11)∧aA wr W));clear hX hkk hg;go_wp2_with fail;go_cut [6,7] from 30 to 40 (fun s6 s7 wx=>s7=.int .i64 RES∧Aside (aA wr wx))
   case first =>
    go_region_held3 (fun W=>W.cell? ⟨XB,3,none⟩=some (.int .i64 o3)∧W.cell? ⟨XB,9,none⟩=some (.int .i64 o9)∧W.cell? ⟨XB,10,none⟩=some (.int .i64 o10)∧W.cell? ⟨XB,11,none⟩=some (.int .i64 o11)∧aA wr W) (refine HSS.out _ b_10) (first|(go_at_call 53;(with_reducible refine(KE.out _ (HGQ.out.trans b_11)).mono ?_);rintro e w5 ⟨v5,rfl,h5,gq⟩;have GQ:=uZ (show aA wr w5 from uY b_11 gq);obtain⟨A5,c5,hA5,-⟩:=h5.open_;subst hA5;have HE5:=uZ h5;clear h5 gq)|(go_at_call 119;(with_reducible refine(KAD.out _ _ (HE5.out.mono b_11)).mono ?_);rintro e w6 ⟨A6,n6,k6,rfl,gq⟩;have GZ:=uZ (GQ.out.trans (uY b_11 gq));clear gq))
    exact e_21
   case rest =>
    obtain⟨rfl,hG⟩:=hcut;have HGZ:=uZ (HGQ.out.trans hG.out);clear hG x3 x9 x10 x11;go_wp2;go_ret;exact⟨rfl,HGZ.out⟩
end Go.Proofs.YtdochkemaiokfaaGreat




namespace Go.Proofs.YtdochkemaiokfaaGreat
open Go.RowKit Go.Sort Go.Lib
def ltM (a b:Mk):Prop:=qV a.mark b.mark
def cfM (a b:Mk):Int:=compareBytes a.mark.data.toList b.mark.data.toList
theorem xI (a b:Mk) (h:ltM a b):¬ ltM b a:=fun k=>rT (jN h k)
theorem aNv (x y:Mk):ltOf cfM x y=true↔ltM x y:=by
 unfold ltOf cfM ltM qV;rcases tL x.mark.data.toList y.mark.data.toList with h|h|h<;>rw[h]<;>simp
theorem aTt (x y:Mk):ltOf cfM x y=false↔¬ ltM x y:=by
 rw[← aNv];simp
theorem aWk:SWO (ltOf cfM):=by
 refine⟨fun x=>?_,fun x y z h1 h2=>?_,fun x y z h1 h2=>?_⟩
 ·rw[aTt];exact rT
 ·rw[aNv] at h1 h2 ⊢;exact jN h1 h2
 ·rw[aTt] at h1 h2 ⊢;exact aVi h1 h2
theorem bCz (x y:Mk) (W:World):Calls Tryz.prog 55 #[x.agg,y.agg] W fun e w'=>e=.returned (.int .i64 (cfM x y))∧∃ q os',w'=grow (W.drewN q) os':=by
 have K:=uZ (fun W=>Tryz.strings_Compare x.mark y.mark W);unfold cfM;obtain⟨xm,xu⟩:=x;obtain⟨ym,yu⟩:=y;unfold Mk.agg;dsimp only at K ⊢;generalize compareBytes xm.data.toList ym.data.toList=q at K ⊢;go_enter Tryz.func55,Tryz.ntmps55;exact c_89
theorem aAl:∀ args w,(callFunc 55 args).run Tryz.prog w=.ok (.enter 55 args) w:=enters_of Tryz.func55 (by kernel_rfl) rfl
theorem aNq (blk off size:Nat) (w:World):CmpLays Tryz.prog 55 #[] Mk.cells 2 cfM blk off size w:=fun _ _ _ _ x y=>by
 have:=bCz x y;unfold Mk.agg at this;exact this _
theorem aJt (l m:List Mk) (h0:0<l.length) (hm:l.Perm m) (hs:m.Pairwise ltM) (w0:World) (v:Value) (w:World) (hown:w.ownsRow w0.heap.size 62 2 v l.length (l.flatMap Mk.cells)) (hg:aA w0 w) (hl:l.length≤1000000) :
  Calls Tryz.prog 54 #[v,.func (.func 55) #[] #[]] w fun en w'=>en=.returned (.tuple #[])∧w'.ownsRow w0.heap.size 62 2 v m.length (m.flatMap Mk.cells)∧aA w0 w':=by
 have hfl:=aL Mk.cells 2 (fun _=>rfl) l;have hfm:=aL Mk.cells 2 (fun _=>rfl) m;have hlm:l.length=m.length:=hm.length_eq;have hH0:=hown;rcases hown.2 with ⟨_,hz⟩|⟨g,cap,cur,rfl,hbg,hh,h1,h2,h3,h4⟩
 ·omega
 have hlt:g<w.heap.size:=(Array.getElem?_eq_some_iff.1 hh).1
 have hH:HoldsK Mk.cells 2 w g 0 l.toArray:=by
  intro j hj;rw[pE (f:=Mk.cells) (k:=2) b_53 (fun _=>rfl)] at hj ⊢;have hj':j<(l.flatMap Mk.cells).length:=by simpa using hj
  rw[Nat.zero_add];refine⟨?_,hH0.frozenAt j⟩;rw[hH0.cellAt j b_53,List.getElem?_eq_getElem hj',getElem!_pos _ j hj];simp
 refine(Tryz.slices_SortFuncM Mk.cells (fun _=>rfl) (fun x u hu=>by simp[Mk.cells] at hu;rcases hu with rfl|rfl<;>rfl) cfM aWk 55 #[] g 0 cap l.toArray w aAl (aNq _ _ _ _) hH hlt b_50).mono ?_;rintro en w' ⟨rfl,d',n,os,hp,ho,rfl⟩;have hd:d'=m.toArray:=Array.toList_inj.1 (by rw[uL xI aNv hm hs hp ho]);subst hd;unfold sortWorldK putRowK;rw[pE (f:=Mk.cells) (k:=2) b_53 (fun _=>rfl)];refine⟨rfl,⟨by rw[hfm],.inr ⟨g,cap,_,by rw[hlm],hbg,tE _ hh,by omega,h2,by simp[putCells,h3],?_⟩⟩,?_⟩
 ·have:=sH cur (m.flatMap Mk.cells) (by rw[hfm,h3];omega)
  rw[hfm] at this;exact this
 ·exact Below.grown hg (nP _) hg.size (fun k e=>by cases e;exact hbg)
end Go.Proofs.YtdochkemaiokfaaGreat
namespace Go.Proofs.YtdochkemaiokfaaGreat
open Go.RowKit Go.Maps
theorem aFk {v:Value} {kl:Lit} (h:keyOf Tryz.prog 9 v=some kl):∃ m,v=.string m∧kl=kT m∧m.size≤maxLen:=by
 obtain⟨s,rfl⟩:=Maps.keyOf_string_inv Tryz.underlying9 h
 have hs:s.size≤maxLen:=by
  by_cases hs:s.size≤maxLen
  ·exact hs
  ·exfalso
   unfold keyOf at h;rw[Tryz.underlying9] at h;simp[mapKey,Tryz.underlying9,hs] at h
 refine⟨s,rfl,?_,hs⟩;rw[bBq s hs] at h;exact(Option.some.inj h).symm
theorem aTn (x:Mk):∀ m:List Mk,m.Pairwise ltM→(∀ y∈m,y.mark≠x.mark)→∃ m',(x::m).Perm m'∧m'.Pairwise ltM
 | [],_,_=>⟨[x],.refl _,List.pairwise_singleton _ _⟩
 | y::r,h,hn=>by
  have h2:=List.pairwise_cons.1 h;rcases xC x.mark y.mark with h1|h1|h1
  ·exact⟨x::y::r,.refl _,List.pairwise_cons.2 ⟨fun z hz=>by
    rcases List.mem_cons.1 hz with rfl|hz
    ·exact h1
    ·exact jN h1 (h2.1 z hz),h⟩⟩
  ·exact absurd h1.symm (hn y List.mem_cons_self)
  ·obtain⟨m',hp,hs⟩:=aTn x r h2.2 (fun z hz=>hn z (List.mem_cons_of_mem _ hz))
   exact⟨y::m',(List.Perm.swap y x r).trans (hp.cons y),List.pairwise_cons.2 ⟨fun z hz=>by
    rcases List.mem_cons.1 (hp.symm.subset hz) with rfl|hz
    ·exact h1
    ·exact h2.1 z hz,hs⟩⟩
theorem aJs:∀ ks:List Mk,(ks.map Mk.mark).Nodup→∃ m,ks.Perm m∧m.Pairwise ltM
 | [],_=>⟨[],.refl _,List.Pairwise.nil⟩
 | x::r,h=>by
  rw[List.map_cons,List.nodup_cons] at h;obtain⟨m,hp,hs⟩:=aJs r h.2;obtain⟨m',hp',hs'⟩:=aTn x m hs (fun y hy e=>h.1 (by rw[← e];exact List.mem_map.2 ⟨y,hp.symm.subset hy,rfl⟩));exact⟨m',(hp.cons x).trans hp',hs'⟩
def tR (D0:DataW Unit) (left:Lit→Bool) (ks:List Mk):Prop:=(ks.map Mk.mark).Nodup∧∀ x:Mk,x∈ks↔(has D0 (kT x.mark)=true∧left (kT x.mark)=false∧D0.atKey (kT x.mark) (.lit (.int .i64 0))=.lit (.int .i64 x.unit))
theorem tR.start (D0:DataW Unit):tR D0 (has D0) []:=⟨List.nodup_nil,fun x=>by cases has D0 (kT x.mark)<;>simp⟩
theorem aYk (a b:ByteArray):(kT a).sameKey (kT b)=true↔a=b:=by
 constructor
 ·intro h
  refine aTm ?_;unfold kT at h ⊢;simpa [Lit.sameKey] using h
 ·rintro rfl
  simp[kT,Lit.sameKey]
theorem tR.step {D0:DataW Unit} {left:Lit→Bool} {ks:List Mk} (h:tR D0 left ks) {m:ByteArray} {c:Int} (hlk:left (kT m)=true) (hat:∀ zd,D0.atKey (kT m) zd=.lit (.int .i64 c)):tR D0 (fun z=>left z && !z.sameKey (kT m)) (ks++[⟨m,c⟩]):=by
 have hhas:has D0 (kT m)=true:=has_true_of_atKey hat
 have hnew:∀ x∈ks,x.mark≠m:=fun x hx e=>by have:=((h.2 x).1 hx).2.1;rw[e,hlk] at this;cases this
 refine⟨?_,fun x=>?_⟩
 ·rw[List.map_append,List.map_singleton]
  refine List.nodup_append.2 ⟨h.1,by simp,fun a ha b hb=>?_⟩;simp at hb;subst hb;obtain⟨x,hx,rfl⟩:=List.mem_map.1 ha;exact hnew x hx
 ·by_cases hy:x.mark=m
  ·have hs:(kT x.mark).sameKey (kT m)=true:=(aYk _ _).2 hy
   constructor
   ·intro hx
    rcases List.mem_append.1 hx with hx|hx
    ·exact absurd hy (hnew x hx)
    ·have e:x=⟨m,c⟩:=by simpa using hx
     subst e;exact⟨hhas,by simp[hs],hat _⟩
   ·rintro ⟨-,-,h3⟩
    rw[hy,hat] at h3;obtain⟨xm,xu⟩:=x;simp only [DataW.lit.injEq,Lit.int.injEq] at h3;dsimp only at hy h3;subst hy;rw[← h3.2];simp
  ·have hs:(kT x.mark).sameKey (kT m)=false:=by
    cases hb:(kT x.mark).sameKey (kT m)
    ·rfl
    ·exact absurd ((aYk _ _).1 hb) hy
   have hne:x≠⟨m,c⟩:=fun e=>hy (by rw[e])
   rw[List.mem_append,List.mem_singleton,h.2 x];simp[hs,hne]
def cU (l:List Opn) (m:List Mk):Prop:=m.Pairwise ltM∧∀ x:Mk,x∈m↔dS l x.mark=some x.unit
theorem tR.done {l:List Opn} {D:DataW Unit} (hD:aSn l D) {left:Lit→Bool} {ks:List Mk} (h:tR D left ks) (hl:∀ kl,left kl=false):∃ m,ks.Perm m∧cU l m:=by
 obtain⟨m,hp,hs⟩:=aJs ks h.1;refine⟨m,hp,hs,fun x=>?_⟩;rw[← hp.mem_iff,h.2 x,(hD x.mark).1,(hD x.mark).2]
 cases ho:dS l x.mark with
 | none=>simp
 | some u=>simp[hl]
def aIv (l:List Opn) (w:World) (e:Ending) (w':World):Prop:=((cS l).2.2≠0→e=.returned (.tuple #[.slice none 0 0,.int .i64 1]))∧((cS l).2.2=0→∃ m v,cU l m∧e=.returned (.tuple #[v,.int .i64 0])∧SlM w' v m)∧aA w w'
theorem aTs:(Tryz.prog.info? 62).map (fun i=>(i.zero,i.size,i.bytes))=some (some (.agg #[.string ⟨#[]⟩,.int .i64 0]),2,24):=by kernel_rfl
theorem aAx (W:World) (a b:Value) (t:TypeId):∀ j u,[a,b][j]? = some u→(W.alloc (.cells #[a,b] t)).cell? ((⟨W.heap.size,0,none⟩:Addr).add j)=some u:=by
 intro j u h;rw[bT]
 match j with
 | 0=>cases h;exact yQ (uX _) 0 _ rfl
 | 1=>cases h;exact yQ (uX _) 1 _ rfl
 | j+2=>simp at h
theorem aJj (l:List Opn) (hwf:∀ i (h:i<l.length),WfO l[i]) (lv:Value) (w:World) (hE:Env w) (hv:SlO w lv l) (hlen:l.length≤1000000):Calls Tryz.prog 30 #[lv] w (aIv l w):=by
 have K:=aPa l hwf lv w hE hv hlen;obtain⟨A,c,rfl,-⟩:=hv.open_;obtain⟨i0,hi,hz0,hz1,hz2⟩:=info_parts aTs;have HF1:=uZ (fun(h:(cS l).2.2≠0) W (g:aA w W)=>(show aIv l w (.returned (.tuple #[.slice none 0 0,.int .i64 1])) W from⟨fun _=>rfl,fun k=>absurd k h,g⟩));have HF2:=uZ (fun(h:(cS l).2.2=0) m v W (h1:cU l m) (h2:SlM W v m) (g:aA w W)=>(show aIv l w (.returned (.tuple #[v,.int .i64 0])) W from⟨fun k=>absurd h k,fun _=>⟨m,v,h1,rfl,h2⟩,g⟩));have KZ:=uZ (fun(A:Option Addr) c fv W=>aYf A c fv W);have HLN:=uZ hlen;unfold aSk at K;generalize cS l=R at K HF1 HF2;obtain⟨t0,i,n0⟩:=R;dsimp only at K HF1 HF2;clear hwf hE hv hlen;go_enter Tryz.func30,Tryz.ntmps30;go_wp2_with fail;refine K.mono ?_;rintro e w2 ⟨p,rfl,g,hk⟩;have HG:=uZ g;clear g;dsimp only;by_cases hn:n0=0
 case neg =>
  have hbn:=h_212;have HP:=uZ (HF1.out hn);clear hn hk HF1 HF2;go_wp2;refine bodyPost_ret (v:=.tuple #[.slice none 0 0,.int .i64 1]) (by simp[results,Tryz.results30,go_sem]) rfl ?_;exact HP.out _ HG.out
 case pos =>
  subst hn;have hbn:=h_218;have HP:=uZ (HF2.out rfl);obtain⟨-,KB,MB,rfl,hK⟩:=hk rfl;clear hk HF1 HF2;obtain⟨E,k,A2,n,c2,B,m,d,C,q,hO,hV⟩:=hK.open_;obtain⟨no,D,hom,hle,hon⟩:=hV.o;obtain⟨-,-,-,-,xk4,-⟩:=hO.facts;have hsz:=hom.size_le;have HSZ:=uZ (show Maps.size D≤1000000 from Nat.le_trans hsz (Nat.le_trans hle HLN.out));have HOM:=uZ hom;have HD:=uZ (fun left ks (h:tR D left ks) hl=>tR.done hon h hl);clear hO hV hK hom hle hon hsz;go_wp2_with (at_range;refine wpList_range_own _ rfl _ 79 rfl 9 3 aAc Tryz.underlying79 _ MB no _ rfl HOM.out ?_;intro w0 hrg0 hg0 hs0)
  have HRG:=uZ hrg0;have HG0:=uZ (show aA w w0 from Below.grown HG.out hg0 HG.out.size (fun k hk=>by cases hk));have HS0:=uZ (show w.heap.size≤w2.heap.size from HG.out.size);clear hrg0 hg0 hs0 xk4;generalize w2.heap.size=r0 at HRG HS0 ⊢;go_loopg [7] (Maps.size D) (fun gg s7 wx=>∃ left cnt ks,cnt≤gg∧Aside (wx.ranges Tryz.prog 9 (plainElem Tryz.prog 3) MB r0 no D left cnt)∧Aside (wx.ownsRow w.heap.size 62 2 s7 ks.length (ks.flatMap Mk.cells))∧Aside (tR D left ks)∧ks.length+cnt≤Maps.size D∧Aside (aA w wx))
  case atStart=>exact⟨_,_,[],Nat.le_refl _,HRG.out,(show Aside _ from World.ownsRow_nil _ _ _ _),(show Aside _ from tR.start _),by simp,HG0.out⟩
  case round =>
   obtain⟨left,cnt,ks,hcg,RG,OR,CO,hcs,GX⟩:=hrel;go_wp2_with (at_next;refine wpList_next_ranges _ rfl _ rfl 9 aAc (plainElem Tryz.prog 3) Value.string (Value.int .i64) (fun key kl hk=>by obtain⟨x,hx,_⟩:=aFk hk;exact⟨x,hx⟩) (fun v y hv=>by obtain⟨a,ha,_⟩:=kV Tryz.underlying3 hv;exact⟨a,ha⟩) MB r0 no _ _ _ rfl RG.out ?_ ?_)
   ·intro hc0 hl0
    obtain⟨mm,hpm,hlg⟩:=HD.out _ _ CO.out hl0;have HLG:=uZ hlg;have HLM:=uZ hpm.length_eq;have h63:=HSZ.out;obtain⟨A3,c3,rfl⟩:=aJ OR.out;by_cases h0:0<ks.length
    ·have KS:=uZ (aJt ks mm h0 hpm hlg.1 w _ _ OR.out GX.out b_53)
     clear hl0 hlg hpm;go_wp2_with fail;refine KS.out.mono ?_;rintro e w4 ⟨rfl,hs4,g4⟩;have HS4:=uZ (show SlM w4 _ mm from Rd.of_own hs4);have HG4:=uZ g4;clear hs4 g4;dsimp only;go_wp2;refine bodyPost_ret (v:=.tuple #[.slice A3 ks.length c3,.int .i64 0]) (by simp[results,Tryz.results30,go_sem]) rfl ?_;exact HP.out _ _ _ HLG.out HS4.out HG4.out
    ·have hks:ks=[]:=List.eq_nil_of_length_eq_zero b_53
     subst hks;have hmm:mm=[]:=List.eq_nil_of_length_eq_zero HLM.out.symm;subst hmm;have HS4:=uZ (show SlM _ _ [] from Rd.of_own OR.out);clear hl0 hlg hpm h0;go_wp2_with fail;refine(KZ.out _ _ _ _).mono ?_;rintro e w4 ⟨rfl,rfl⟩;dsimp only;go_wp2;refine bodyPost_ret (v:=.tuple #[.slice A3 0 c3,.int .i64 0]) (by simp[results,Tryz.results30,go_sem]) rfl ?_;exact HP.out _ _ _ HLG.out HS4.out GX.out
   ·intro x c' kl yd yp w3 cnt2 hkey hlk hv hat hrg2 hlt2 hg2 hs2 hen
    obtain⟨x',ex,rfl,_⟩:=aFk hkey;obtain rfl:x=x':=by injection ex
    obtain⟨a,ea,hy⟩:=kV Tryz.underlying3 hv;obtain rfl:c'=a:=by injection ea
    simp only [Prod.mk.injEq] at hy;obtain⟨rfl,rfl⟩:=hy;have OR2:=uZ (OR.out.kept hg2 (Or.inr (row_ne_iter OR.out RG.out).symm));have RG2:=uZ hrg2;have CO2:=uZ (CO.out.step hlk hat);have GX2:=uZ (aDj GX.out hg2 HS0.out);have h63:=HSZ.out;have hm:ks.length+1≤1000000:=by omega
    clear hs2 hg2 hrg2 hat hlk hv hkey ex ea;go_wp2_with (at_builtin;refine wpList_append_own _ rfl _ _ 53 rfl w.heap.size 62 i0 (.agg #[.string ⟨#[]⟩,.int .i64 0]) 2 24 Tryz.underlying53 hi hz0 hz1 hz2 rfl b_52 _ _ _ rfl (OR2.out.alloc _) ⟨w3.heap.size,0,none⟩ 1 1 [.string x,.int .i64 c'] rfl rfl (aAx _ _ _ _) b_45 b_47 b_53 (by have:=GX2.out.size;simp;omega) ?_;intro v' w4 hown' hg3 hnil3)
    have RG3:=uZ ((RG2.out.alloc _).kept hg3 (aGs OR2.out RG2.out.owns) (row_ne_iter OR2.out RG2.out));have GX3:=uZ (show aA w w4 from Below.grown (GX2.out.alloc _) hg3 (by have:=GX2.out.size;simp;omega) (fun k hk=>(OR2.out.lt k hk).1));have OR3:=uZ hown';clear hown' hg3 hnil3;go_roundg cnt2
    case measure=>omega
    case rel=>exact⟨_,cnt2,ks++[Mk.mk x c'],Nat.le_refl _,RG3.out,(show Aside _ from by rw[List.flatMap_append,List.length_append];exact OR3.out),(show Aside _ from CO2.out),by simp;omega,(show Aside _ from GX3.out)⟩
end Go.Proofs.YtdochkemaiokfaaGreat