/- Lemmas on what the functions of the program and of the library compute: PlainLg, EqM, Ru5, Ru1, Rv3, Ru2, PlainSp, Ru7. The conditions stand at each. -/
import Derived.Test.YtdochkemaiokfaaGreatQ34
import Derived.Test.YtdochkemaiokfaaGreatQ30
import Derived.Test.YtdochkemaiokfaaGreatProg
import Derived.Test.YtdochkemaiokfaaGreatQ1
import Derived.Test.YtdochkemaiokfaaGreatQ10
import Derived.Test.YtdochkemaiokfaaGreatQ3
import Derived.Test.YtdochkemaiokfaaGreatQ2
import Derived.BigQuiet
import Derived.Deep.CutRange
import Derived.Deep.CutBlock
import Derived.Deep.RegionHeld3
import Derived.Test.YtdochkemaiokfaaGreatQ8
import Derived.Test.YtdochkemaiokfaaGreatQ4
import Derived.Test.YtdochkemaiokfaaGreatQ15
import Derived.Test.YtdochkemaiokfaaGreatQ16
import Derived.Test.YtdochkemaiokfaaGreatQ31
import Derived.Test.YtdochkemaiokfaaGreatQ32
import Derived.Test.YtdochkemaiokfaaGreatQ33
set_option maxHeartbeats 16000000
set_option maxRecDepth 100000
set_option linter.all false
namespace Go.Proofs.YtdochkemaiokfaaGreat
open Go.RowKit
theorem aFg:∀ x y:List UInt8,Op.bytesLess x y=true↔Lib.compareBytes x y=-1
 | [],[]=>by simp[Op.bytesLess,Lib.compareBytes]
 | [],_::_=>by simp[Op.bytesLess,Lib.compareBytes]
 | _::_,[]=>by simp[Op.bytesLess,Lib.compareBytes]
 | a::x,b::y=>by
  have ih:=aFg x y;rw[Lib.compareBytes];by_cases h1:a<b
  ·simp[Op.bytesLess,h1]
  ·by_cases h2:b<a
   ·have h3:¬ a=b:=fun k=>by subst k;exact h1 h2
    simp[Op.bytesLess,h1,h2,h3]
   ·have h3:a=b:=by
     have k1:¬ b.toNat<a.toNat:=h2;have k2:¬ a.toNat<b.toNat:=h1;exact UInt8.toNat_inj.1 b_53
    subst h3;simp only [Op.bytesLess,h1,if_false,decide_false,Bool.false_or,beq_self_eq_true,Bool.true_and];exact ih
theorem zW {x y:ByteArray}:Op.bytesLess x.toList y.toList=true↔qV x y:=by
 rw[ByteArray.toList_eq,ByteArray.toList_eq];exact aFg _ _
theorem aHq:cU [] []:=⟨List.Pairwise.nil,fun x=>by simp[dS]⟩
theorem aCt {l:List Opn} {o:Opn} {m:List Mk} (h:cU l m) (hm:cJ o=false):cU (l++[o]) m:=by
 refine⟨h.1,fun x=>?_⟩;rw[jK,if_neg (fun k=>by rw[hm] at k;exact Bool.false_ne_true k.1)];exact h.2 x
theorem aCu {l:List Opn} {o:Opn} {m:List Mk} (h:cU l m) (hm:cJ o=true) (hin:(⟨o.mark,o.unit⟩:Mk)∈m):cU (l++[o]) m:=by
 refine⟨h.1,fun x=>?_⟩;rw[jK];by_cases he:o.mark=x.mark
 ·rw[if_pos ⟨hm,he⟩,h.2 x,← he,(h.2 _).1 hin]
 ·rw[if_neg (fun k=>he k.2)]
  exact h.2 x
theorem aHp {l:List Opn} {o:Opn} {m:List Mk} (hA:gD (l++[o])) (h:cU l m) (hm:cJ o=true):∀ y∈m,y.mark=o.mark→y.unit=o.unit:=fun y hy he=>by
 obtain⟨x,hx,h1,h2,h3⟩:=qA ((h.2 y).1 hy);rw[← h3];exact aQw hA x (List.mem_append_left _ hx) o (List.mem_append_right _ (List.mem_singleton.2 rfl)) h1 hm (h2.trans he)
theorem aHr {l:List Opn} {o:Opn} {m:List Mk} (h:cU l m) (hm:cJ o=true) (k:Nat) (hk:k≤m.length) (h1:∀ j (hj:j<m.length),j<k→qV m[j].mark o.mark) (h2:∀ hj:k<m.length,qV o.mark m[k].mark):cU (l++[o]) (m.take k++⟨o.mark,o.unit⟩::m.drop k):=by
 have hs:=List.pairwise_iff_getElem.1 h.1
 have ht:∀ y∈m.take k,qV y.mark o.mark:=fun y hy=>by
  obtain⟨j,hj,e⟩:=List.mem_iff_getElem.1 hy;rw[List.length_take] at hj;rw[← e,List.getElem_take];exact h1 j b_53 b_53
 have hd:∀ y∈m.drop k,qV o.mark y.mark:=fun y hy=>by
  obtain⟨j,hj,e⟩:=List.mem_iff_getElem.1 hy;rw[List.length_drop] at hj;rw[← e,List.getElem_drop];have h3:=h2 b_53;by_cases hz:j=0
  ·subst hz
   exact h3
  ·exact jN h3 (hs k (k+j) b_53 b_53 b_53)
 have hmem:∀ x:Mk,x∈m.take k++⟨o.mark,o.unit⟩::m.drop k↔x=⟨o.mark,o.unit⟩∨x∈m:=fun x=>by
  rw[List.mem_append,List.mem_cons]
  conv=>rhs;rw[← List.take_append_drop k m,List.mem_append]
  constructor
  ·rintro (h|h|h)
   ·exact .inr (.inl h)
   ·exact .inl h
   ·exact .inr (.inr h)
  ·rintro (h|h|h)
   ·exact .inr (.inl h)
   ·exact .inl h
   ·exact .inr (.inr h)
 have hno:∀ y∈m,y.mark≠o.mark:=fun y hy he=>by
  rw[← List.take_append_drop k m,List.mem_append] at hy;rcases hy with hy|hy
  ·have:=ht y hy
   rw[he] at this;exact rT this
  ·have:=hd y hy
   rw[he] at this;exact rT this
 refine⟨?_,fun x=>?_⟩
 ·rw[List.pairwise_append]
  have hp:=h.1;rw[← List.take_append_drop k m,List.pairwise_append] at hp;refine⟨hp.1,List.pairwise_cons.2 ⟨fun y hy=>hd y hy,hp.2.1⟩,fun a ha b hb=>?_⟩;rcases List.mem_cons.1 hb with rfl|hb
  ·exact ht a ha
  ·exact hp.2.2 a ha b hb
 ·rw[hmem,jK]
  obtain⟨xm,xu⟩:=x;by_cases he:o.mark=xm
  ·subst he
   rw[if_pos ⟨hm,rfl⟩];constructor
   ·rintro (h|h)
    ·injection h with _ h
     rw[h]
    ·exact absurd rfl (hno _ h)
   ·intro h
    injection h with h;have h:o.unit=xu:=h;rw[h];exact .inl rfl
  ·rw[if_neg (fun k=>he k.2),← h.2]
   constructor
   ·rintro (h|h)
    ·injection h with h _
     exact absurd h.symm he
    ·exact h
   ·exact .inr
theorem c_94 {p:Prop} (h:p:=by
 simp only [Program.fieldsOf,Tryz.underlying62];go_simp
 try simp only [Mk.mk.injEq]
 by_cases h0:x0=y0<;>by_cases h1:x1=y1<;>simp[*,nZ]
):p:=h
@[go_sem ↓] theorem bEt (w:World) (x0 y0:ByteArray) (x1 y1:Int):(binOp .eql 62 (.agg #[.string x0,.int .i64 x1]) (.agg #[.string y0,.int .i64 y1])).run Tryz.prog w=.ok (.bool (decide ((⟨x0,x1⟩:Mk)=(⟨y0,y1⟩:Mk)))) w:=by
 have hS:=h_138;have hp:Tryz.prog.stoodInHeld 62=false:=by kernel_rfl
 rw[run_eql_struct,show(10000:Nat)=9999+1 from rfl,run_equalIn_agg w 9999 62 _ _ hS hp];exact c_94
@[go_sem ↓] theorem bEs (w:World) (x0 y0:ByteArray) (x1 y1:Int):(binOp .neq 62 (.agg #[.string x0,.int .i64 x1]) (.agg #[.string y0,.int .i64 y1])).run Tryz.prog w=.ok (.bool (!decide ((⟨x0,x1⟩:Mk)=(⟨y0,y1⟩:Mk)))) w:=by
 have hS:=h_138;have hp:Tryz.prog.stoodInHeld 62=false:=by kernel_rfl
 rw[run_neq_struct,show(10000:Nat)=9999+1 from rfl,run_equalIn_agg w 9999 62 _ _ hS hp];exact c_94
def zIi:=Unit
theorem zIi.g {p:Prop} (_:zIi) (h:p:=by
 clear hr hr' hv hu;by_cases hl:l.length=m.length
 case neg =>
  have hd:decide (l=m)=false:=by rw[decide_eq_false_iff_not];exact fun h=>hl (by rw[h])
  rw[hd];have hne:((l.length:Int) != (m.length:Int))=true:=by rw[bne_iff_ne];omega
  clear hl hd;go_enter Tryz.func41,Tryz.ntmps41;exact c_129
 have hne:((l.length:Int) != (m.length:Int))=false:=by rw[bne_eq_false_iff_eq];omega
 generalize hD:decide (l=m)=D;have HD:=uZ hD;have HL:=uZ hl;clear hD hl;go_enter Tryz.func41,Tryz.ntmps41;go_wp2;go_loopg [5,13] l.length (fun gg _ s wr=>∃ kk:Nat,kk≤l.length∧l.length-kk≤gg∧s=.int .i64 kk∧Aside (aA w wr)∧Aside (l.take kk=m.take kk))
 case atStart=>exact⟨0,Nat.zero_le _,by omega,rfl,uX w,rfl⟩
 case round =>
  obtain⟨kk,hkk,hg,rfl,BW,M⟩:=hrel;by_cases hlt:kk<l.length
  ·have hlt2:kk<m.length:=by have:=HL.out;omega
   have hltz:=h_201;have hltz2:(kk:Int)<(m.length:Int):=by omega
   obtain⟨b,off,rfl,hb,hcell⟩:=HR.out b_53;obtain⟨b',off',rfl,hb',hcell'⟩:=HR'.out b_53;obtain⟨c0,c1⟩:=hcell wr BW.out kk hlt;obtain⟨d0,d1⟩:=hcell' wr BW.out kk hlt2;clear hcell hcell';have Hstep:=h_38;have Hbad:=h_60;generalize l[kk]=x at c0 c1 Hstep Hbad;generalize m[kk]=y at d0 d1 Hstep Hbad;by_cases hxy:x=y
   ·have Hs:=uZ (Hstep.out hxy)
    subst hxy;clear Hstep Hbad;obtain⟨x0,x1⟩:=x;dsimp only at c0 c1 d0 d1;exact c_68
   ·have Hs:=uZ (Hbad.out hxy)
    have hq0:=uZ hxy;clear hxy Hstep Hbad;obtain⟨x0,x1⟩:=x;obtain⟨y0,y1⟩:=y;dsimp only at c0 c1 d0 d1
    have hq1:(!decide (x0=y0) || (!decide (x1=y1)))=true:=by
     have h:=hq0.out;simp only [Mk.mk.injEq] at h;simp;by_cases g0:x0=y0<;>by_cases g1:x1=y1<;>simp_all
    clear hq0;go_wp2;go_quiet (fail);go_wp2;go_ret;exact⟨aV Hs.out.symm,BW.out.drewN _⟩
  ·have hltz:¬ (kk:Int)<(l.length:Int):=by omega
   exact c_56
):p:=h
theorem bAf (l m:List Mk) (v u:Value) (w:World) (hv:SlM w v l) (hu:SlM w u m) :
  Calls Tryz.prog 41 #[v,u] w fun e w'=>e=.returned (.bool (decide (l=m)))∧aA w w':=by
 have nX:zIi:=()
 exact s_57
theorem c_92 {p:Prop} (h:p:=by
 go_wp2;go_quiet (fail);go_wp2;go_meet;exact⟨k,hk,rfl,(show Aside _ from HBW.out.drewN _),(show Aside _ from HM.out),(show Aside _ from HNL1.out)⟩
):p:=h
theorem c_104 {p:Prop} (h:p:=by
 go_wp2;go_quiet (fail);go_wp2;go_meet;exact⟨congrArg Value.bool HTT.out.symm,(show Aside _ from HBQ.out.drewN _)⟩
):p:=h
theorem vA (l:List Mk):∀ u∈l.flatMap Mk.cells,u.oneCell'=true:=by
 intro u hu;rw[List.mem_flatMap] at hu;obtain⟨x,_,hx⟩:=hu;simp only [Mk.cells,List.mem_cons,List.not_mem_nil,or_false] at hx;rcases hx with rfl|rfl<;>rfl
def bDj (W0:World) (cs:Array Value) (s6:Value) (wx:World):Prop:=∃ X,s6=.pointer (some ⟨X,0,none⟩)∧wx.heap[X]? = some (.cells cs 62 (0,0))∧aA W0 wx
theorem aWm {W0 W:World} {X:Nat} {cs:Array Value} (h:W.heap[X]? = some (.cells cs 62 (0,0))) (g:aA W0 W):bDj W0 cs (.pointer (some ⟨X,0,none⟩)) W:=⟨X,rfl,h,g⟩
theorem aSc {W0 W:World} {X:Nat} {x0 x1 y0 y1:Value} (h:W.heap[X]? = some (.cells #[x0,x1] 62 (0,0))) (hX:W0.heap.size≤X) (g:aA W0 W):bDj W0 #[y0,y1] (.pointer (some ⟨X,0,none⟩)) ((W.setCell ⟨X,0,none⟩ y0).setCell ⟨X,1,none⟩ y1) :=
 ⟨X,rfl,aTa h y0 y1,(g.setCell (p:=⟨X,0,none⟩) hX _).setCell (p:=⟨X,1,none⟩) hX _⟩
theorem aMm {w:World} {base:Nat} {v:Value} {p q:List Mk} {c:Mk} {m:Nat} (h:w.ownsRow base 62 2 v m ([]++p.flatMap Mk.cells++c.cells++q.flatMap Mk.cells)):SlM w v (p++c::q):=by
 have e:([]++p.flatMap Mk.cells++c.cells++q.flatMap Mk.cells)=(p++c::q).flatMap Mk.cells:=by simp
 rw[e] at h;exact Rd.of_own h
def aWz (l:List Opn) (kk:Nat) (A:Option Addr) (n c:Nat) (W:World):Prop:=∃ m,cU (l.take kk) m∧m.length=n∧n≤kk∧SlM W (.slice A n c) m
theorem aVl {l:List Opn} {kk:Nat} {W:World} {base:Nat} {v:Value} {m:List Mk} {k j:Nat} {c:Mk} (h:W.ownsRow base 62 2 v j ([]++(m.take k).flatMap Mk.cells++c.cells++(m.drop k).flatMap Mk.cells)) (hm:m.length≤kk) (hL:cU (l.take (kk+1)) (m.take k++c::m.drop k)):∃ A n e,v=.slice A n e∧aWz l (kk+1) A n e W:=by
 have h2:=aMm h;obtain⟨A,e,hv,-⟩:=h2.open_;subst hv;refine⟨A,_,e,rfl,_,hL,rfl,?_,h2⟩
 have:(m.take k++c::m.drop k).length=m.length+1:=by
  conv=>rhs;rw[← List.take_append_drop k m]
  simp;omega
 omega
theorem nbT {y:Int} {e NB:Bool} (h:NB = !((y == 1 || y == 4) && !e)) (hn:NB=true):((y == 1 || y == 4) && !e)=false:=by
 rw[hn] at h;cases x:((y == 1 || y == 4) && !e)
 ·rfl
 ·rw[x] at h
  cases h
theorem nbF {y:Int} {e NB:Bool} (h:NB = !((y == 1 || y == 4) && !e)) (hn:NB=false):((y == 1 || y == 4) && !e)=true:=by
 rw[hn] at h;cases x:((y == 1 || y == 4) && !e)
 ·rw[x] at h
  cases h
 ·rfl
theorem nbA {y:Int} {e NB:Bool} (h:NB = !((y == 1 || y == 4) && !e)) (h1:(y != 1)=true) (h4:(y != 4)=true):NB=true:=by
 have a:(y == 1)=false:=by simpa using h1
 have b:(y == 4)=false:=by simpa using h4
 rw[h,a,b];rfl
theorem nbB {y:Int} {e NB:Bool} (h:NB = !((y == 1 || y == 4) && !e)) (h1:(y != 1)=false):NB=e:=by
 have a:(y == 1)=true:=by simpa using h1
 rw[h,a];cases e<;>rfl
theorem nbC {y:Int} {e NB:Bool} (h:NB = !((y == 1 || y == 4) && !e)) (h1:(y != 4)=false):NB=e:=by
 have a:(y == 4)=true:=by simpa using h1
 rw[h,a];cases (y == 1)<;>cases e<;>rfl
theorem bBv (a b e:Bool):(a=true∧b=true)∨(a=false∧e=false)∨(a=false∧e=true)∨(a=true∧b=false∧e=false)∨(a=true∧b=false∧e=true):=by
 cases a<;>cases b<;>cases e<;>simp
theorem zJ (l:List Opn) (hA:gD l) (hlen:l.length≤1000000) (lv:Value) (w:World) (hv:SlO w lv l):Calls Tryz.prog 57 #[lv] w fun e w'=>∃ m v,e=.returned v∧cU l m∧m.length≤l.length∧SlM w' v m∧aA w w':=by
 obtain⟨A,c,rfl,hlc,hcap,hr⟩:=hv.open_;unfold maxLen at hcap;obtain⟨k0,hk0,hx0,hx1,hx2⟩:=info_parts aTs;have HR:=uZ hr;have HN:=uZ hlen;have HT:=h_109;have HAD:=uZ (fun k=>(yH _ (l.take k) (l.drop k) rfl (by rw[List.take_append_drop];exact hA):gD (l.take k)));have HZ:=uZ (List.take_length (l:=l));have HL0:=uZ (show aWz l 0 none 0 0 w from⟨[],aHq,rfl,Nat.le_refl _,SlM.nil w⟩);clear hv hr hlen hA;go_enter Tryz.func57,Tryz.ntmps57;go_wp2;go_loopg [3,4] l.length (fun gg s3 s4 wr=>∃ kk:Nat,kk≤l.length∧l.length-kk≤gg∧s4=.int .i64 kk∧∃ A n c,s3=.slice A n c∧Aside (aWz l kk A n c wr)∧Aside (aA w wr))
 case atStart=>exact⟨0,by omega,by omega,rfl,none,0,0,rfl,(show Aside _ from HL0.out),(show Aside _ from uX w)⟩
 case round =>
  obtain⟨kk,hkk,hgk,rfl,EA,en,ec,rfl,ES,GW⟩:=hrel;have HLA:=uZ ES.out;have HGW:=uZ GW.out;have hN:=HN.out;clear ES GW HL0;by_cases hlt:kk<l.length
  case neg =>
   have hltz:=h_197;obtain rfl:kk=l.length:=by omega
   go_wp2;go_ret;obtain⟨m,h1,h2,h3,h4⟩:=HLA.out;rw[HZ.out] at h1;exact⟨m,_,rfl,h1,by omega,h4,HGW.out⟩
  case pos =>
   have hltz:=h_201;have h0z:=h_214;obtain⟨b,off,rfl,hbb,hcell⟩:=HR.out b_53;have HCE:=h_204;have HTK:=uZ (HT.out kk hlt);have HAK:=uZ (HAD.out (kk+1));obtain⟨m,hL,hml,hmk,hS⟩:=HLA.out;subst hml;have HLM:=uZ hL;have HSM:=uZ hS;have hm1:m.length≤1000000:=by omega
   clear hcell HLA hL hS;generalize l[kk]=y at HCE HTK;have HSK:=uZ (fun(h:cJ y=false)=>(show cU (l.take (kk+1)) m from by rw[HTK.out];exact aCt HLM.out h));have HSA:=uZ (fun(h:cJ y=true) hin=>(show cU (l.take (kk+1)) m from by rw[HTK.out];exact aCu HLM.out h hin));have HON:=uZ (fun(h:cJ y=true)=>aHp (by have:=HAK.out;rw[HTK.out] at this;exact this) HLM.out h);have HNW:=uZ (fun(h:cJ y=true) k hk h1 h2=>(show cU (l.take (kk+1)) (m.take k++⟨y.mark,y.unit⟩::m.drop k) from by rw[HTK.out];exact aHr HLM.out h k hk h1 h2));clear HTK HAK;obtain⟨y0,y1,y2,y3,y4,y5,y6,y7,y8,y9,y10,y11⟩:=y;unfold cJ at HSK HSA HON HNW;dsimp only at HCE HSK HSA HON HNW;obtain⟨-,-,c2,-,-,-,-,-,c8,-⟩:=HCE.out wr HGW.out;obtain⟨NB,hNB⟩:∃ NB:Bool,NB = !((y2 == 1 || y2 == 4) && !y8.toList.isEmpty):=⟨_,rfl⟩
   have HSK1:=uZ (fun(h:NB=true)=>HSK.out (nbT hNB h));have HSA1:=uZ (fun(h:NB=false)=>HSA.out (nbF hNB h));have HON1:=uZ (fun(h:NB=false)=>HON.out (nbF hNB h));have HNW1:=uZ (fun(h:NB=false)=>HNW.out (nbF hNB h));have HB1:=uZ (fun h1 h4=>nbA hNB h1 h4);have HB2:=uZ (fun h1=>nbB hNB h1);have HB3:=uZ (fun h1=>nbC hNB h1);clear hNB HSK HSA HON HNW;have HCS:=uZ (bBv (y2 != 1) (y2 != 4) y8.toList.isEmpty);go_upto_region 5 with fail;go_cut [34] from 13 to 34 (fun s34 wx=>s34=.bool NB∧wr=wx)
   case first =>
    rcases HCS.out with ⟨a1,a2⟩|⟨a1,a3⟩|⟨a1,a3⟩|⟨a1,a2,a3⟩|⟨a1,a2,a3⟩
    all_goals
     go_wp2_with fail;go_meet;exact⟨congrArg Value.bool (by first|exact(HB1.out a1 a2).symm|exact((HB2.out a1).trans a3).symm|exact((HB3.out a2).trans a3).symm),rfl⟩
   case rest =>
    obtain⟨rfl,hwc⟩:=hcut;subst hwc;clear HCS HB1 HB2 HB3 c2 c8
    cases NB with
    | true =>
     have HOK:=uZ (HSK1.out rfl);clear HSK1 HSA1 HON1 HNW1;go_wp2;go_roundg (l.length-(kk+1))
     case measure=>omega
     case rel=>exact⟨kk+1,by omega,by omega,by go_num,EA,_,ec,rfl,(show Aside _ from⟨m,HOK.out,rfl,by omega,HSM.out⟩),(show Aside _ from HGW.out)⟩
    | false =>
     have HSA2:=uZ (HSA1.out rfl);have HON2:=uZ (HON1.out rfl);have HNW2:=uZ (HNW1.out rfl);clear HSK1 HSA1 HON1 HNW1;go_upto_region 6 with fail;obtain⟨-,-,-,c3,-,-,-,-,c8,-⟩:=HCE.out wr HGW.out;have HSS:=uZ (fun W (g:aA wr W)=>(⟨uQ g c3,uQ g c8,g⟩:W.cell? ⟨b,off+kk*12+3,none⟩=some (.int .i64 y3)∧W.cell? ⟨b,off+kk*12+8,none⟩=some (.string y8)∧aA wr W));go_cut [5] from 35 to 45 (fun s5 wx=>bDj wr #[.string y8,.int .i64 y3] s5 wx)
     case first =>
      go_region_held3 (fun W=>W.cell? ⟨b,off+kk*12+3,none⟩=some (.int .i64 y3)∧W.cell? ⟨b,off+kk*12+8,none⟩=some (.string y8)∧aA wr W) (refine HSS.out _ b_5) (fail)
      all_goals go_wp2_with fail
      all_goals go_meet
      all_goals with_reducible first|exact aWm (aD b_11 (aO wr _)) b_11|exact aSc (aD b_11 (aO wr _)) (Nat.le_refl _) b_11
     case rest =>
      obtain⟨X,rfl,hX,hG⟩:=hcut;obtain⟨wX,hwX⟩:∃ wX,wX=wc:=⟨_,rfl⟩
      subst hwX;have HX:=uZ hX;have HGX:=uZ (HGW.out.trans hG);have HSX:=uZ (HSM.out.mono hG);obtain⟨EA2,ec2,hEA2,hel2,hec2,her2⟩:=HSX.out.open_;cases hEA2;unfold maxLen at hec2;have HER:=uZ her2;clear hX hG HSS c3 c8 her2;go_upto_block 2 with fail;go_cut [6] from 46 to 61 (fun s6 wx=>∃ k:Nat,k≤m.length∧s6=.int .i64 k∧Aside (aA wX wx)∧Aside (∀ j (h:j<m.length),j<k→qV m[j].mark y8)∧Aside (∀ h:k<m.length,¬ qV m[k].mark y8))
      case first =>
       clear HSA2 HON2 HNW2;go_wp2_with fail;go_loopg [6] m.length (fun gg s6 wq=>∃ k:Nat,k≤m.length∧m.length-k≤gg∧s6=.int .i64 k∧Aside (aA wX wq)∧Aside (∀ j (h:j<m.length),j<k→qV m[j].mark y8))
       case atStart=>exact⟨0,Nat.zero_le _,by omega,rfl,(show Aside _ from uX _),(show Aside _ from fun j h hj=>absurd hj (Nat.not_lt_zero _))⟩
       case round =>
        obtain⟨k,hk,hgk2,rfl,BW,M⟩:=hrel;have HBW:=uZ BW.out;have HM:=uZ M.out;have h0k:=h_216;have x0:wr.cell? ⟨X,0,none⟩=some (.string y8):=aC (aD HBW.out HX.out) rfl;clear BW M;by_cases hlk:k<m.length
        ·have hlkz:(k:Int)<(m.length:Int):=by omega
         obtain⟨eb,eoff,rfl,heb,hecell⟩:=HER.out b_53;have HEC:=uZ (fun W (g:aA wX W)=>hecell W g k hlk);obtain⟨d0,-⟩:=HEC.out wr HBW.out
         have HNX:=uZ (fun(hlu:qV m[k].mark y8)=>(show ∀ j (h:j<m.length),j<k+1→qV m[j].mark y8 from fun j h hj=>by
          by_cases e:j=k
          ·subst e;exact hlu
          ·exact HM.out j h b_53))
         have HNL:=uZ (fun(hlu:¬ qV m[k].mark y8)=>(show ∀ h:k<m.length,¬ qV m[k].mark y8 from fun _=>hlu));clear hecell HEC;generalize m[k].mark=zm at d0 HNX HNL;by_cases hlu:qV zm y8
         ·have hd:Op.bytesLess zm.toList y8.toList=true:=zW.2 hlu
          have HNX1:=uZ (HNX.out hlu);clear hlu HNX HNL;go_wp2;go_quiet (fail);go_wp2;go_roundg (m.length-(k+1))
          case measure=>omega
          case rel=>exact⟨k+1,by omega,by omega,by go_num,(show Aside _ from HBW.out.drewN _),(show Aside _ from HNX1.out)⟩
         ·have hd:Op.bytesLess zm.toList y8.toList=false:=by
           cases e:Op.bytesLess zm.toList y8.toList
           ·rfl
           ·exact absurd (zW.1 e) hlu
          have HNL1:=uZ (HNL.out hlu);clear hlu HNX HNL;exact c_92
        ·have hlkz:¬ (k:Int)<(m.length:Int):=by omega
         have HNL1:=uZ (show ∀ h:k<m.length,¬ qV m[k].mark y8 from fun h=>absurd h hlk);exact c_92
      case rest =>
       obtain⟨k,hk,rfl,BW,M,ML⟩:=hcut;obtain⟨wq,hwq⟩:∃ wq,wq=wc:=⟨_,rfl⟩
       subst hwq;have HBQ:=uZ BW.out;have h0k:=h_216;obtain⟨NE,hNE⟩:∃ NE:Bool,NE=decide (∃ h:k<m.length,m[k].mark=y8):=⟨_,rfl⟩
       have HE1:=uZ (show NE=true→cU (l.take (kk+1)) m from fun h=>by
        rw[h] at hNE;obtain⟨h1,h2⟩:=of_decide_eq_true hNE.symm;have h3:=HON2.out m[k] (List.getElem_mem h1) h2;refine HSA2.out ?_;have h4:=List.getElem_mem h1;rw[show m[k]=(⟨y8,y3⟩:Mk) from by rw[← h2,← h3]] at h4
        exact h4)
       have HE0:=uZ (show NE=false→cU (l.take (kk+1)) (m.take k++⟨y8,y3⟩::m.drop k) from fun h=>by
        rw[h] at hNE;refine HNW2.out k hk M.out (fun h1=>?_);rcases xC m[k].mark y8 with h2|h2|h2
        ·exact absurd h2 (ML.out h1)
        ·exact absurd ⟨h1,h2⟩ (of_decide_eq_false hNE.symm)
        ·exact h2)
       have HET:=uZ (show ∀ h:k<m.length,m[k].mark=y8→NE=true from fun h1 h2=>by rw[hNE];exact decide_eq_true ⟨h1,h2⟩);have HEF:=uZ (show ∀ h:k<m.length,¬ m[k].mark=y8→NE=false from fun h1 h2=>by rw[hNE];exact decide_eq_false (fun⟨_,h3⟩=>h2 h3));have HEG:=uZ (show ¬ k<m.length→NE=false from fun h1=>by rw[hNE];exact decide_eq_false (fun⟨h3,_⟩=>h1 h3));have HUN:=uZ (fun h:k<m.length=>HON2.out m[k] (List.getElem_mem h));clear BW M ML hNE HSA2 HON2 HNW2;go_upto_region 10 with fail;go_cut [73] from 62 to 73 (fun s73 wx=>s73=.bool NE∧Aside (aA wX wx))
       case first =>
        clear HE1 HE0;have x0:wq.cell? ⟨X,0,none⟩=some (.string y8):=aC (aD HBQ.out HX.out) rfl;have x1:wq.cell? ⟨X,1,none⟩=some (.int .i64 y3):=aC (aD HBQ.out HX.out) rfl;by_cases hlk:k<m.length
        ·have hlkz:(k:Int)<(m.length:Int):=by omega
         obtain⟨eb,eoff,rfl,heb,hecell⟩:=HER.out b_53;obtain⟨d0,d1⟩:=hecell wq HBQ.out k hlk;have HT1:=uZ (HET.out hlk);have HF1:=uZ (HEF.out hlk);have HU1:=uZ (HUN.out hlk);clear hecell HET HEF HUN;generalize m[k]=z at d0 d1 HT1 HF1 HU1;obtain⟨zm,zu⟩:=z;dsimp only at d0 d1 HT1 HF1 HU1;by_cases hem:zm=y8
         ·have HTT:=uZ (HT1.out hem)
          have hu:=HU1.out hem;subst hem hu;clear HT1 HF1 HU1;exact c_104
         ·have HTT:=uZ (HF1.out hem)
          have hq1:(decide (zm=y8) && decide (zu=y3))=false:=by rw[decide_eq_false hem,Bool.false_and]
          clear HT1 HF1 HU1;exact c_104
        ·have hlkz:¬ (k:Int)<(m.length:Int):=by omega
         have HTT:=uZ (HEG.out hlk);clear HET HEF HUN;exact c_104
       case rest =>
        obtain⟨rfl,BR⟩:=hcut;obtain⟨wB,hwB⟩:∃ wB,wB=wc:=⟨_,rfl⟩
        subst hwB;have HBB:=uZ BR.out;clear BR HET HEF HEG HUN HBQ
        cases NE with
        | true =>
         have HOK:=uZ (HE1.out rfl);clear HE1 HE0;go_wp2;go_roundg (l.length-(kk+1))
         case measure=>omega
         case rel=>exact⟨kk+1,by omega,by omega,by go_num,EA,_,ec,rfl,(show Aside _ from⟨m,HOK.out,rfl,by omega,HSX.out.mono HBB.out⟩),(show Aside _ from HGX.out.trans HBB.out)⟩
        | false =>
         have HRES:=uZ (HE0.out rfl);clear HE1 HE0;go_wp2_with fail;have HV:=uZ (HSX.out.mono HBB.out);have HGB:=uZ (HGX.out.trans HBB.out);have x0:wB.cell? ⟨X,0,none⟩=some (.string y8):=aC (aD HBB.out HX.out) rfl;have x1:wB.cell? ⟨X,1,none⟩=some (.int .i64 y3):=aC (aD HBB.out HX.out) rfl;have hsz1:0<2:=by omega
         have e1:=lX Tryz.underlying53 hk0 EA m.length ec k hk hel2;have e2:=iT Tryz.underlying53 hk0 hx1 EA m.length ec k hk
         have HP:RowKit.Hid (∀ W,aA wB W→Rd W 2 (.slice EA k ec) ((m.take k).flatMap Mk.cells)):=fun W hW=>by
          have h:=lU (Rd.mono HV.out hW) hk;rw[(cT (f:=Mk.cells) (k:=2) (fun _=>rfl) m k).1] at h;exact h
         have HS:RowKit.Hid (∀ W,aA wB W→Rd W 2 (yY EA m.length ec k 2) ((m.drop k).flatMap Mk.cells)):=fun W hW=>by
          have h:=oA (Rd.mono HV.out hW) hk;rw[(cT (f:=Mk.cells) (k:=2) (fun _=>rfl) m k).2] at h;exact h
         generalize yY EA m.length ec k 2=V2 at e2 HS;have hpl:((m.take k).flatMap Mk.cells).length=k*2:=by rw[aL Mk.cells 2 (fun _=>rfl),List.length_take,Nat.min_eq_left hk]
         have hsl:((m.drop k).flatMap Mk.cells).length=(m.length-k)*2:=by rw[aL Mk.cells 2 (fun _=>rfl),List.length_drop]
         have hp63:0+k≤maxLen:=by unfold maxLen;omega
         have hpb:(0+k)*24≤140737488355328:=by omega
         have hq63:0+k+1≤maxLen:=by unfold maxLen;omega
         have hqb:(0+k+1)*24≤140737488355328:=by omega
         have hs63:0+k+1+(m.length-k)≤maxLen:=by unfold maxLen;omega
         have hsb:(0+k+1+(m.length-k))*24≤140737488355328:=by omega
         have hone:∀ u∈([.string y8,.int .i64 y3]:List Value),u.oneCell'=true:=by simp[Value.oneCell']
         have HPL:=uZ hpl;have HSL:=uZ hsl;clear hpl hsl;have HSS:=uZ (fun W (g:aA wB W)=>(⟨uQ g x0,uQ g x1,g⟩:W.cell? ⟨X,0,none⟩=some (.string y8)∧W.cell? ⟨X,1,none⟩=some (.int .i64 y3)∧aA wB W))
         go_region_held3 (fun W=>W.cell? ⟨X,0,none⟩=some (.string y8)∧W.cell? ⟨X,1,none⟩=some (.int .i64 y3)∧aA wB W) (refine HSS.out _ b_8) (first|(refine eM (o:=⟨some 78,_,_,_,_,_⟩) b_55 (.tmp 74) (.tmp 77) 53 b_55 wB 62 k0 (.agg #[.string ⟨#[]⟩,.int .i64 0]) 2 24 Tryz.underlying53 hk0 hx0 hx1 hx2 rfl hsz1 _ 0 [] b_55 _ b_14 b_11 _ k _ b_55 (HP.out _ b_11) HPL.out (vA _) hp63 hpb ?_;intro v1 w1 o1 g1 q1 z1;have O1:=uZ o1;have G1:=uZ g1;have X1:=uZ q1;(try simp at z1);clear o1 g1 q1)|(refine eM (o:=⟨some 81,_,_,_,_,_⟩) b_55 (.tmp 78) (.tmp 80) 53 b_55 wB 62 k0 (.agg #[.string ⟨#[]⟩,.int .i64 0]) 2 24 Tryz.underlying53 hk0 hx0 hx1 hx2 rfl hsz1 _ (0+k) ([]++(m.take k).flatMap Mk.cells) b_55 _ b_24 b_15 _ 1 [.string y8,.int .i64 y3] b_55 (by first|exact gE _ rfl _ b_54|exact eO rfl b_52 b_53 (fun j u hu=>by rcases j with _|_|j<;>simp at hu<;>(try (subst hu;exact X1.out _ _ b_54 b_42)))) b_54 hone hq63 hqb ?_;intro v2 w2 o2 g2 q2 z2;have O2:=uZ o2;have G2:=uZ g2;clear o2 g2 q2 z2)|(refine eM (o:=⟨some 85,_,_,_,_,_⟩) b_55 (.tmp 81) (.tmp 84) 53 b_55 wB 62 k0 (.agg #[.string ⟨#[]⟩,.int .i64 0]) 2 24 Tryz.underlying53 hk0 hx0 hx1 hx2 rfl hsz1 _ (0+k+1) ([]++(m.take k).flatMap Mk.cells++[.string y8,.int .i64 y3]) b_55 _ O2.out G2.out _ (m.length-k) _ b_55 (HS.out _ G2.out) HSL.out (vA _) hs63 hsb ?_;intro v3 w3 o3 g3 q3 z3;have O3:=uZ o3;have G3:=uZ g3;clear o3 g3 q3 z3))
         all_goals go_wp2_with fail
         all_goals
          obtain⟨A5,n5,c5,hv5,h5⟩:=aVl (l:=l) (kk:=kk) (c:=⟨y8,y3⟩) O3.out b_53 HRES.out;subst hv5;have HS5:=uZ h5;have HG5:=uZ (HGB.out.trans G3.out);clear h5 x0 x1 e1 e2;go_wp2;go_roundg (l.length-(kk+1))
          case measure=>omega
          case rel=>exact⟨kk+1,by omega,by omega,by go_num,A5,n5,c5,rfl,(show Aside _ from HS5.out),(show Aside _ from HG5.out)⟩
theorem c_67 {p:Prop} (h:p:=by
 clear hq HTK;go_wp2;go_quiet (fail);go_wp2;go_roundg (l.length-(kk+1))
 case measure=>omega
 case rel=>exact⟨kk+1,by omega,by omega,by rw[HQ.out],by go_num,(show Aside _ from BW.out.drewN _)⟩
):p:=h
theorem c_126 {p:Prop} (h:p:=by
 subst hres;go_wp2;go_ret;exact⟨rfl,BW.out⟩
):p:=h
theorem aDs {α:Type} (p:α→Bool) (l:List α) (k:Nat) (h:k<l.length):(l.take (k+1)).countP p=(l.take k).countP p+if p l[k]=true then 1 else 0:=by
 rw[List.take_succ_eq_append_getElem h,List.countP_append,List.countP_cons,List.countP_nil];simp
theorem sQ (l:List Opn) (i:Nat) (hi:i<l.length) (hlen:l.length≤1000000) (lv:Value) (w:World) (hv:SlO w lv l) :
  Calls Tryz.prog 47 #[lv,.int .i64 i] w fun e w'=>e=.returned (.bool (cE l l[i]))∧aA w w':=by
 obtain⟨A,c,rfl,hlc,hc,hr⟩:=hv.open_;unfold maxLen at hc;obtain⟨b,off,rfl,hbb,hcell⟩:=hr b_53;have HR:=uZ hcell;have HI:=uZ (fun W (g:aA w W)=>(hcell W g i hi));have hiz:=h_207;have hi0:=h_215;have HT:=uZ (fun k (h:k<l.length) (id:Int)=>aDs (fun o:Opn=>o.kind == 6 && o.unit == id) l k h);generalize hR:cE l l[i]=RES;generalize hx:l[i]=x at HI;obtain⟨x0,x1,x2,x3,x4,x5,x6,x7,x8,x9,x10,x11⟩:=x;dsimp only at HI
 have hcb:RES=(x2 != 6 && !((l.countP fun o=>o.kind == 6 && o.unit == x0) % 2 == 1)):=by
  rw[← hR,hx];rfl
 have HRES:=uZ hcb;clear hcell hv hr hx hcb hR;go_enter Tryz.func47,Tryz.ntmps47;go_wp2;go_loopg [5,6] l.length (fun gg s5 s6 wr=>∃ kk:Nat,kk≤l.length∧l.length-kk≤gg∧s5=.int .i64 ((l.take kk).countP fun o=>o.kind == 6 && o.unit == x0:Nat)∧s6=.int .i64 kk∧Aside (aA w wr))
 case atStart=>exact⟨0,Nat.zero_le _,by omega,rfl,rfl,(show Aside _ from uX w)⟩
 case round =>
  obtain⟨kk,hkk,hg,rfl,rfl,BW⟩:=hrel;by_cases hlt:kk<l.length
  ·have hltz:(kk:Int)<(l.length:Int):=by omega
   have h0z:=h_214;obtain⟨c0,c1,c2,c3,c4,c5,c6,c7,c8,c9,c10,c11⟩:=HR.out wr BW.out kk hlt;obtain⟨d0,-⟩:=HI.out wr BW.out;have HTK:=uZ (HT.out kk hlt x0);have hle:(l.take kk).countP (fun o=>o.kind == 6 && o.unit == x0)≤kk:=Nat.le_trans List.countP_le_length b_41;generalize l[kk]=y at c0 c1 c2 c3 c4 c5 c6 c7 c8 c9 c10 c11 HTK;obtain⟨y0,y1,y2,y3,y4,y5,y6,y7,y8,y9,y10,y11⟩:=y;dsimp only at c0 c1 c2 c3 c4 c5 c6 c7 c8 c9 c10 c11 HTK;generalize (l.take kk).countP (fun o=>o.kind == 6 && o.unit == x0)=n at hle HTK ⊢;cases h1:(y2 == 6)
   ·have hq:(l.take (kk+1)).countP (fun o=>o.kind == 6 && o.unit == x0)=n:=by
     rw[HTK.out,h1];simp
    have HQ:=uZ hq;exact c_67
   ·cases h2:(y3 == x0)
    ·have hq:(l.take (kk+1)).countP (fun o=>o.kind == 6 && o.unit == x0)=n:=by
      rw[HTK.out,h1,h2];simp
     have HQ:=uZ hq;exact c_67
    ·have hq:(l.take (kk+1)).countP (fun o=>o.kind == 6 && o.unit == x0)=n+1:=by
      rw[HTK.out,h1,h2];simp
     have HQ:=uZ hq;clear hq HTK;go_wp2;go_quiet (fail);go_wp2;go_roundg (l.length-(kk+1))
     case measure=>omega
     case rel=>exact⟨kk+1,by omega,by omega,by rw[HQ.out];go_num,by go_num,(show Aside _ from BW.out.drewN _)⟩
  ·have hltz:¬ (kk:Int)<(l.length:Int):=by omega
   obtain rfl:kk=l.length:=by omega
   rw[List.take_length];obtain⟨d0,d1,d2,-⟩:=HI.out wr BW.out;generalize (l.countP fun o=>o.kind == 6 && o.unit == x0)=n at HRES ⊢
   have hrem:((n:Int) % 2 == 0) = !(n % 2 == 1):=by
    rcases Nat.mod_two_eq_zero_or_one n with h|h
    ·have:(n:Int) % 2=0:=by omega
     rw[h,this];rfl
    ·have:(n:Int) % 2=1:=by omega
     rw[h,this];rfl
   cases h6:(x2 != 6)
   ·have hres:=HRES.out
    rw[h6,Bool.false_and] at hres;exact c_126
   ·have hres:=HRES.out
    rw[h6,Bool.true_and] at hres;cases hp:(n % 2 == 1)
    all_goals
     rw[hp] at hrem hres;exact c_126
theorem e_13 {p:Prop} (h:p:=by
 go_wp2;go_roundg (l.length-(kk+1))
 case measure=>omega
 case rel=>exact⟨kk+1,by omega,by omega,by go_num,(show Aside _ from BW.out),(show Aside _ from HNX.out)⟩
):p:=h
theorem aVf (l:List Cm) (u:Int) (k:Nat) (hk:k<l.length) (h:(l[k].unit == u)=true) (hm:∀ i (hi:i<l.length),i<k→(l[i].unit == u)=false):ofC l u=some l[k]:=by
 unfold ofC;rw[List.find?_eq_some_iff_getElem];exact⟨h,k,hk,rfl,fun j hj=>by simp[hm j b_53 hj]⟩
theorem aQk (l:List Cm) (u:Int) (hm:∀ i (hi:i<l.length),(l[i].unit == u)=false):ofC l u=none:=by
 unfold ofC;rw[List.find?_eq_none];intro x hx;obtain⟨i,hi,e⟩:=List.mem_iff_getElem.1 hx;rw[← e,hm i hi];exact Bool.false_ne_true
theorem aUt (l:List Cm) (u:Int) (hlen:l.length≤1000000) (lv:Value) (w:World) (hv:SlC w lv l):Calls Tryz.prog 86 #[lv,.int .i64 u] w (aIu (ofC l u) w):=by
 obtain⟨A,n,rfl,hlc,hcap,hr⟩:=hv.open_;unfold maxLen at hcap;have HR:=uZ hr;have HN:=uZ hlen;have HH:=uZ (aVf l u);have HM:=uZ (aQk l u);have HB:=uZ (aO w (.cells #[.int .i64 0,.int .i64 0,.int .i64 0] 24));have HG:=uZ ((uX w).alloc (.cells #[.int .i64 0,.int .i64 0,.int .i64 0] 24));generalize ofC l u=RES at HH HM ⊢;clear hv hr;go_enter Tryz.func86,Tryz.ntmps86;go_wp2;obtain⟨wA,hwA⟩:∃ wA,w.alloc (.cells #[.int .i64 0,.int .i64 0,.int .i64 0] 24)=wA:=⟨_,rfl⟩
 rw[hwA] at HB HG ⊢;go_loopg [6] l.length (fun gg s6 wr=>∃ kk:Nat,kk≤l.length∧l.length-kk≤gg∧s6=.int .i64 kk∧Aside (aA wA wr)∧Aside (∀ i (hi:i<l.length),i<kk→(l[i].unit == u)=false))
 case atStart=>exact⟨0,Nat.zero_le _,by omega,rfl,(show Aside _ from uX _),(show Aside _ from fun i hi h=>absurd h (Nat.not_lt_zero _))⟩
 case round =>
  clear hwA;obtain⟨kk,hkk,hg,rfl,BW,M⟩:=hrel;have hb:=aD BW.out HB.out;have q0:wr.cell? ⟨w.heap.size,0,none⟩=some (.int .i64 0):=aC hb rfl;have q1:wr.cell? ⟨w.heap.size,1,none⟩=some (.int .i64 0):=aC hb rfl;have q2:wr.cell? ⟨w.heap.size,2,none⟩=some (.int .i64 0):=aC hb rfl;have z0:=aS (i:=0) hb;have z1:=aS (i:=1) hb;have z2:=aS (i:=2) hb;by_cases hlt:kk<l.length
  ·have hltz:(kk:Int)<(l.length:Int):=by omega
   have h0z:=h_214;obtain⟨b,off,rfl,hbb,hcell⟩:=HR.out b_53;obtain⟨c0,c1,c2,c3⟩:=hcell wr (HG.out.trans BW.out) kk hlt;have HK:=uZ (HH.out kk hlt);clear hcell;cases h1:(l[kk].unit == u)
   ·have HNX:=uZ (show ∀ i (hi:i<l.length),i<kk+1→(l[i].unit == u)=false from fun i hi h=>by
     by_cases e:i=kk
     ·subst e;exact h1
     ·exact M.out i hi b_53)
    generalize l[kk]=y at c0 c1 c2 c3 h1;obtain⟨yu,yo,ya,yn⟩:=y;dsimp only at c0 c1 c2 c3 h1;clear HK M hb;exact e_13
   ·have hres:=HK.out h1 M.out
    generalize l[kk]=y at c0 c1 c2 c3 h1 hres;obtain⟨yu,yo,ya,yn⟩:=y;dsimp only at c0 c1 c2 c3 h1 hres;subst hres;have hs:=aXd hb (.int .i64 yo) (.int .i64 ya) (.int .i64 yn);have r0:=aC (i:=0) (x:=.int .i64 yo) hs rfl;have r1:=aC (i:=1) (x:=.int .i64 ya) hs rfl;have r2:=aC (i:=2) (x:=.int .i64 yn) hs rfl;clear hs hb HK;go_wp2;refine bodyPost_ret (v:=.tuple #[.agg #[.int .i64 yo,.int .i64 ya,.int .i64 yn],.bool true]) (by simp[results,Tryz.results86,go_sem,r0,r1,r2]) rfl ⟨rfl,vL (HG.out.trans BW.out) (Nat.le_refl _) _ _ _⟩
  ·have hltz:¬ (kk:Int)<(l.length:Int):=by omega
   have hres:=HM.out (fun i hi=>M.out i hi b_53);subst hres;have hs:=aXd hb (.int .i64 0) (.int .i64 0) (.int .i64 0);have r0:=aC (i:=0) (x:=.int .i64 0) hs rfl;have r1:=aC (i:=1) (x:=.int .i64 0) hs rfl;have r2:=aC (i:=2) (x:=.int .i64 0) hs rfl;clear hs hb;go_wp2;refine bodyPost_ret (v:=.tuple #[.agg #[.int .i64 0,.int .i64 0,.int .i64 0],.bool false]) (by simp[results,Tryz.results86,go_sem,r0,r1,r2]) rfl ⟨rfl,vL (HG.out.trans BW.out) (Nat.le_refl _) _ _ _⟩
theorem c_73 {p:Prop} (h:p:=by
 clear HK M;exact e_13
):p:=h
theorem aPy (l:List Opn) (id:Int) (hlen:l.length≤1000000) (lv:Value) (w:World) (hv:SlO w lv l) :
  Calls Tryz.prog 87 #[lv,.int .i64 id] w fun e w'=>e=.returned (.int .i64 (lL (fun o=>o.id == id) l))∧aA w w':=by
 obtain⟨A,c,rfl,hlc,hc,hr⟩:=hv.open_;unfold maxLen at hc;have HR:=uZ hr;have HH:=uZ (fun k hk (h:(l[k]'hk).id == id) hm=>eW (fun o:Opn=>o.id == id) l k hk h hm);have HM:=uZ (fun h=>eA (fun o:Opn=>o.id == id) l h);generalize lL (fun o:Opn=>o.id == id) l=RES at HH HM ⊢;clear hv hr;go_enter Tryz.func87,Tryz.ntmps87;go_wp2;go_loopg [5] l.length (fun gg s5 wr=>∃ kk:Nat,kk≤l.length∧l.length-kk≤gg∧s5=.int .i64 kk∧Aside (aA w wr)∧Aside (∀ i (hi:i<l.length),i<kk→(l[i].id == id)=false))
 case atStart=>exact⟨0,Nat.zero_le _,by omega,rfl,(show Aside _ from uX w),(show Aside _ from fun i hi h=>absurd h (Nat.not_lt_zero _))⟩
 case round =>
  obtain⟨kk,hkk,hg,rfl,BW,M⟩:=hrel;by_cases hlt:kk<l.length
  ·have hltz:(kk:Int)<(l.length:Int):=by omega
   have h0z:=h_214;obtain⟨b,off,rfl,hbb,hcell⟩:=HR.out b_53;obtain⟨c0,-⟩:=hcell wr BW.out kk hlt;have HK:=uZ (HH.out kk hlt);clear hcell;cases h1:(l[kk].id == id)
   ·have HNX:=uZ (show ∀ i (hi:i<l.length),i<kk+1→(l[i].id == id)=false from fun i hi h=>by
     by_cases e:i=kk
     ·subst e;exact h1
     ·exact M.out i hi b_53)
    generalize l[kk].id=x at c0 h1;exact c_73
   ·have hres:=HK.out h1 M.out
    subst hres;generalize l[kk].id=x at c0 h1;go_wp2;go_ret;exact⟨rfl,BW.out⟩
  ·have hltz:¬ (kk:Int)<(l.length:Int):=by omega
   have hres:=HM.out (fun i hi=>M.out i hi b_53);exact c_126
def aJa (m:List Mk) (s:ByteArray):Int:=((m.find? fun x=>x.mark.toList == s.toList).map (·.unit)).getD 0
theorem aQg (m:List Mk) (s:ByteArray) (k:Nat) (hk:k<m.length) (h:(m[k].mark.toList == s.toList)=true) (hm:∀ i (hi:i<m.length),i<k→(m[i].mark.toList == s.toList)=false):aJa m s=m[k].unit:=by
 unfold aJa
 rw[show m.find? (fun x=>x.mark.toList == s.toList)=some m[k] from by
  rw[List.find?_eq_some_iff_getElem]
  exact⟨h,k,hk,rfl,fun j hj=>by simp[hm j b_53 hj]⟩]
 rfl
theorem aLj (m:List Mk) (s:ByteArray) (hm:∀ i (hi:i<m.length),(m[i].mark.toList == s.toList)=false):aJa m s=0:=by
 unfold aJa
 rw[show m.find? (fun x=>x.mark.toList == s.toList)=none from by
  rw[List.find?_eq_none];intro x hx;obtain⟨i,hi,e⟩:=List.mem_iff_getElem.1 hx;rw[← e,hm i hi]
  exact Bool.false_ne_true]
 rfl
theorem aPu (l:List Mk) (s:ByteArray) (hlen:l.length≤1000000) (lv:Value) (w:World) (hv:SlM w lv l) :
  Calls Tryz.prog 85 #[lv,.string s] w fun e w'=>e=.returned (.int .i64 (aJa l s))∧aA w w':=by
 obtain⟨A,c,rfl,hlc,hc,hr⟩:=hv.open_;unfold maxLen at hc;have HR:=uZ hr;have HH:=uZ (aQg l s);have HM:=uZ (aLj l s);generalize aJa l s=RES at HH HM ⊢;clear hv hr;go_enter Tryz.func85,Tryz.ntmps85;go_wp2;go_loopg [5] l.length (fun gg s5 wr=>∃ kk:Nat,kk≤l.length∧l.length-kk≤gg∧s5=.int .i64 kk∧Aside (aA w wr)∧Aside (∀ i (hi:i<l.length),i<kk→(l[i].mark.toList == s.toList)=false))
 case atStart=>exact⟨0,Nat.zero_le _,by omega,rfl,(show Aside _ from uX w),(show Aside _ from fun i hi h=>absurd h (Nat.not_lt_zero _))⟩
 case round =>
  obtain⟨kk,hkk,hg,rfl,BW,M⟩:=hrel;by_cases hlt:kk<l.length
  ·have hltz:(kk:Int)<(l.length:Int):=by omega
   have h0z:=h_214;obtain⟨b,off,rfl,hbb,hcell⟩:=HR.out b_53;obtain⟨c0,c1⟩:=hcell wr BW.out kk hlt;have HK:=uZ (HH.out kk hlt);clear hcell;cases h1:(l[kk].mark.toList == s.toList)
   ·have HNX:=uZ (show ∀ i (hi:i<l.length),i<kk+1→(l[i].mark.toList == s.toList)=false from fun i hi h=>by
     by_cases e:i=kk
     ·subst e;exact h1
     ·exact M.out i hi b_53)
    generalize l[kk]=x at c0 c1 h1;obtain⟨xm,xu⟩:=x;dsimp only at c0 c1 h1;exact c_73
   ·have hres:=HK.out h1 M.out
    generalize l[kk]=x at c0 c1 h1 hres;obtain⟨xm,xu⟩:=x;dsimp only at c0 c1 h1 hres;exact c_126
  ·have hltz:¬ (kk:Int)<(l.length:Int):=by omega
   have hres:=HM.out (fun i hi=>M.out i hi b_53);exact c_126
def aJq (l:List Opn) (o:Opn):Int :=
 if o.kind=1∧sB (aW l) o.came≠0 then sB (aW l) o.came
 else if (cJ o && qU l o)=true then 19
 else if o.kind=5∧(aW l).any (fun x=>x.unit == o.unit && x.acc != 0)=true then 21
 else if o.kind=6 then match iZ l o.unit with
  | none=>7
  | some p=>if p.kind=1∧p.acc≠0∧cE l p=true then 21 else 0
 else 0
theorem aHz (l:List Opn) (o:Opn):eX l o=if 512≤l.length then 8 else if aP o=false then 1 else if mB l o=true then 5 else aJq l o:=rfl
theorem aDk {o:Opn} (h:aP o=true):1≤o.unit:=by
 unfold aP at h
 have h1:aN o.unit 1 1073741824=true:=by
  cases hw:aN o.unit 1 1073741824
  ·rw[hw] at h;simp at h
  ·rfl
 unfold aN at h1;simp only [Bool.and_eq_true,decide_eq_true_eq] at h1;exact h1.1
theorem aBu {x y:ByteArray}:(x.toList == y.toList)=decide (x=y):=by
 rw[Bool.eq_iff_iff,beq_iff_eq,decide_eq_true_eq];exact nZ
theorem aLg {l:List Opn} (hA:gD l) {m:List Mk} (h:cU l m) (s:ByteArray):(aJa m s=0∧dS l s=none)∨∃ u,aJa m s=u∧u≠0∧dS l s=some u:=by
 unfold aJa
 cases hf:m.find? (fun x=>x.mark.toList == s.toList) with
 | none =>
  refine .inl ⟨rfl,?_⟩
  cases ho:dS l s with
  | none=>rfl
  | some u =>
   have:=(h.2 ⟨s,u⟩).2 ho;have h2:=List.find?_eq_none.1 hf _ this;simp at h2
 | some x =>
  have hx:=List.mem_of_find?_eq_some hf;have he:=List.find?_some hf;rw[aBu,decide_eq_true_eq] at he;have ho:=(h.2 x).1 hx;rw[he] at ho;refine .inr ⟨x.unit,rfl,?_,ho⟩;obtain⟨y,hy,-,-,h3⟩:=qA ho;have:=aDk ((tO hA).formed y hy);omega
theorem aHy {l:List Opn} (hA:gD l) (id:Int):(lL (fun o:Opn=>o.id == id) l=-1∧iZ l id=none)∨∃ k,∃ h:k<l.length,lL (fun o:Opn=>o.id == id) l=(k:Int)∧((l[k].kind=6∧iZ l id=none)∨(l[k].kind≠6∧iZ l id=some l[k])):=by
 by_cases h:l.any (fun o=>o.id == id)=true
 ·obtain⟨k,hk,h1,h2⟩:=mD _ l h
  refine .inr ⟨k,hk,eW _ l k hk h1 h2,?_⟩;have hid:=eq_of_beq h1;by_cases h6:l[k].kind=6
  ·refine .inl ⟨h6,?_⟩
   cases hf:iZ l id with
   | none=>rfl
   | some p =>
    obtain⟨hp,h3,h4⟩:=aDl hf;have:=aFo (tO hA).ids hp (List.getElem_mem hk) (h3.trans hid.symm);rw[this] at h4;exact absurd h6 h4
  ·refine .inr ⟨h6,?_⟩
   unfold iZ;rw[List.find?_eq_some_iff_getElem];exact⟨by simp[hid,h6],k,hk,rfl,fun j hj=>by simp[h2 j b_53 hj]⟩
 ·simp only [Bool.not_eq_true] at h
  refine .inl ⟨eA _ l fun i hi=>?_,?_⟩
  ·rw[List.any_eq_false] at h
   have:=h l[i] (List.getElem_mem hi);simpa only [Bool.not_eq_true] using this
  ·unfold iZ
   rw[List.find?_eq_none];intro x hx;rw[List.any_eq_false] at h;have:=h x hx;simp only [Bool.not_eq_true] at this;simp[this]
theorem aWb {l:List Opn} (hA:gD l) (u:Int):((aW l).any fun x=>x.unit == u && x.acc != 0)=(((ofC (aW l) u).getD cm0).acc != 0):=by
 rw[aFq (pH hA)]
 cases ofC (aW l) u with
 | none=>rfl
 | some c=>rfl
theorem e_23 {p:Prop} (h:p:=by
 go_wp2;go_ret;exact⟨rfl,HG6.out⟩
):p:=h
theorem c_30 {p:Prop} (h:p:=by
 obtain⟨m6,hm6,rfl,hG⟩:=hcut;have HG6:=uZ (HGV.out.trans hG);have hX:=aD hG HXV.out;clear x8;have x8:wc.cell? ⟨XB,8,none⟩=some (.string o8):=aC hX rfl;have x3:wc.cell? ⟨XB,3,none⟩=some (.int .i64 o3):=aC hX rfl;have hop:=HOP.out m6 hm6;generalize aJa m6 o8=N at hop ⊢;clear hm6 hX hG;cases hem:o8.toList.isEmpty
 case true =>
  have hres:=(HRX.out _ hem).1 rfl;subst hres;exact e_23
 case false =>
  rcases hop with ⟨rfl,ho⟩|⟨u,rfl,hu0,ho⟩
  ·have hres:=(HRX.out _ hem).2.1 ho
   subst hres;have hb:=h_218;clear ho;exact e_23
  ·have hb:(N != 0)=true:=by simpa using hu0
   have hres:=(HRX.out _ hem).2.2 N ho rfl;clear ho hu0;cases hne:(N != o3)
   case false =>
    rw[hne,if_neg Bool.false_ne_true] at hres;subst hres;exact e_23
   case true =>
    rw[hne,if_pos rfl] at hres;subst hres;exact e_23
):p:=h
theorem h_167 {p:Prop} (h:p:=by
 exact(show w0.cell? ⟨XB,3,none⟩=some (.int .i64 o3) from aC HX0.out rfl)
):p:=h
theorem s_36 {p:Prop} (h:p:=by
 obtain⟨w0,hw0⟩:∃ w0,w.alloc (.cells #[.int .i64 o0,.int .i64 o1,.int .i64 o2,.int .i64 o3,.int .i64 o4,.int .i64 o5,.int .i64 o6,.string o7,.string o8,.int .i64 o9,.int .i64 o10,.int .i64 o11] 26)=w0:=⟨_,rfl⟩
 rw[hw0] at HX0 HG0;obtain⟨XB,hXB⟩:∃ XB,w.heap.size=XB:=⟨_,rfl⟩
 rw[hXB] at HX0;exact nX.g
):p:=h
def aTz (l:List Opn) (s:ByteArray) (W0:World) (s6:Value) (wx:World):Prop:=∃ m,cU l m∧s6=.int .i64 (aJa m s)∧aA W0 wx
def bDg (R:Option Cm) (W0:World) (s7:Value) (wx:World):Prop:=∃ X,s7=.pointer (some ⟨X,0,none⟩)∧wx.heap[X]? = some (.cells #[.int .i64 (R.getD cm0).office,.int .i64 (R.getD cm0).acc,.int .i64 (R.getD cm0).num] 24 (0,0))∧aA W0 wx
theorem bCp {R:Option Cm} {W0 W:World} {X:Nat} (h:W.heap[X]? = some (.cells #[.int .i64 (R.getD cm0).office,.int .i64 (R.getD cm0).acc,.int .i64 (R.getD cm0).num] 24 (0,0))) (g:aA W0 W):bDg R W0 (.pointer (some ⟨X,0,none⟩)) W:=⟨X,rfl,h,g⟩
theorem aZk {R:Option Cm} {W0 W:World} {X:Nat} {x0 x1 x2:Value} (h:W.heap[X]? = some (.cells #[x0,x1,x2] 24 (0,0))) (hX:W0.heap.size≤X) (g:aA W0 W):bDg R W0 (.pointer (some ⟨X,0,none⟩)) (((W.setCell ⟨X,0,none⟩ (.int .i64 (R.getD cm0).office)).setCell ⟨X,1,none⟩ (.int .i64 (R.getD cm0).acc)).setCell ⟨X,2,none⟩ (.int .i64 (R.getD cm0).num)) :=
 ⟨X,rfl,aXd h _ _ _,vL g hX _ _ _⟩
def zGk:=Unit
theorem zGk.g {p:Prop} (_:zGk) (h:p:=by
 go_enter Tryz.func65,Tryz.ntmps65;have y2:w0.cell? ⟨XB,2,none⟩=some (.int .i64 o2):=aC HX0.out rfl;by_cases h1:o2=1
 case pos =>
  subst h1;have KCR1:=uZ (KCR.out rfl)
  have HRM:=uZ (fun(h:AE=0) (e:Bool) (he:o8.toList.isEmpty=e)=>(show(e=true→RES=0)∧(dS l o8=none→RES=0)∧∀ u,dS l o8=some u→e=false→RES=if (u != o3)=true then 19 else 0 from by
   have h0:=HRES.out;rw[if_neg (fun k=>k.2 h),he] at h0;refine⟨fun k=>?_,fun k=>?_,fun u k k2=>?_⟩
   ·subst k
    simpa using h0
   ·rw[k] at h0
    simpa using h0
   ·rw[k,k2] at h0
    simpa using h0))
  have HR1:=uZ (fun(h:AE≠0)=>HRES.out.trans (if_pos ⟨rfl,h⟩));clear HRES KCR;have x0:w0.cell? ⟨XB,0,none⟩=some (.int .i64 o0):=aC HX0.out rfl;have x1:w0.cell? ⟨XB,1,none⟩=some (.int .i64 o1):=aC HX0.out rfl;have x3:=h_167;have x4:w0.cell? ⟨XB,4,none⟩=some (.int .i64 o4):=aC HX0.out rfl;have x5:w0.cell? ⟨XB,5,none⟩=some (.int .i64 o5):=aC HX0.out rfl;have x6:w0.cell? ⟨XB,6,none⟩=some (.int .i64 o6):=aC HX0.out rfl;have x7:w0.cell? ⟨XB,7,none⟩=some (.string o7):=aC HX0.out rfl;have x8:w0.cell? ⟨XB,8,none⟩=some (.string o8):=aC HX0.out rfl;have x9:w0.cell? ⟨XB,9,none⟩=some (.int .i64 o9):=aC HX0.out rfl;have x10:w0.cell? ⟨XB,10,none⟩=some (.int .i64 o10):=aC HX0.out rfl;have x11:w0.cell? ⟨XB,11,none⟩=some (.int .i64 o11):=aC HX0.out rfl;go_wp2_with fail;clear y2 x0 x1 x3 x4 x5 x6 x7 x8 x9 x10 x11;refine(KCR1.out _ HG0.out).mono ?_;rintro e wv ⟨rfl,g1⟩;have HGV:=h_229;have HXV:=uZ (aD g1 HX0.out);clear g1 KCR1;dsimp only;by_cases hae:AE=0
  case neg =>
   have hb:(AE != 0)=true:=by simpa using hae
   have hres:=HR1.out hae;subst hres;clear hae;go_wp2;go_ret;exact⟨rfl,HGV.out⟩
  case pos =>
   have HRX:=uZ (HRM.out hae);subst hae;have hb:=h_218;have x2:wv.cell? ⟨XB,2,none⟩=some (.int .i64 1):=aC HXV.out rfl;have x8:wv.cell? ⟨XB,8,none⟩=some (.string o8):=aC HXV.out rfl;clear HRM;go_wp2_with fail;have HSS:=uZ (fun W (g:aA wv W)=>(⟨uQ g x8,g⟩:W.cell? ⟨XB,8,none⟩=some (.string o8)∧aA wv W));go_cut [6] from 24 to 28 (fun s6 wx=>aTz l o8 wv s6 wx)
   case first =>
    go_region_held3 (fun W=>W.cell? ⟨XB,8,none⟩=some (.string o8)∧aA wv W) (refine HSS.out _ b_10) (first|(go_at_call 57;(with_reducible refine(KL.out _ (HGV.out.trans b_11)).mono ?_);rintro e w5 ⟨m5,v5,rfl,hm5,hl5,h5,gq⟩;have GQ:=uZ (show aA wv w5 from uY b_11 gq);obtain⟨A5,c5,hA5,-⟩:=h5.open_;subst hA5;have HM5:=uZ hm5;have HS5:=uZ h5;have HL5:=uZ hl5;clear h5 gq hm5 hl5)|(go_at_call 85;(with_reducible refine(KOW.out _ HL5.out _ _ (HS5.out.mono b_11)).mono ?_);rintro e w6 ⟨rfl,gq⟩;have GZ:=uZ (GQ.out.trans (uY b_11 gq));clear gq))
    all_goals go_wp2_with fail
    all_goals go_meet
    all_goals exact⟨_,HM5.out,rfl,GZ.out⟩
   case rest =>
    exact c_30
 case neg =>
  clear KCR;have HR2:=uZ (HRES.out.trans (if_neg (fun k=>h1 k.1)));have hk1:(o2 == 1)=false:=by simpa using h1
  clear HRES;by_cases h4:o2=4
  case pos =>
   subst h4
   have HRX:=uZ (fun(e:Bool) (he:o8.toList.isEmpty=e)=>(show(e=true→RES=0)∧(dS l o8=none→RES=0)∧∀ u,dS l o8=some u→e=false→RES=if (u != o3)=true then 19 else 0 from by
    have h0:=HR2.out;rw[he] at h0;refine⟨fun k=>?_,fun k=>?_,fun u k k2=>?_⟩
    ·subst k
     simpa using h0
    ·rw[k] at h0
     simpa using h0
    ·rw[k,k2] at h0
     simpa using h0))
   have HGV:=uZ HG0.out;have HXV:=uZ HX0.out;have x8:w0.cell? ⟨XB,8,none⟩=some (.string o8):=aC HX0.out rfl;clear HR2;go_wp2_with fail;have HSS:=uZ (fun W (g:aA w0 W)=>(⟨uQ g x8,g⟩:W.cell? ⟨XB,8,none⟩=some (.string o8)∧aA w0 W));go_cut [6] from 24 to 28 (fun s6 wx=>aTz l o8 w0 s6 wx)
   case first =>
    go_region_held3 (fun W=>W.cell? ⟨XB,8,none⟩=some (.string o8)∧aA w0 W) (refine HSS.out _ b_10) (first|(go_at_call 57;(with_reducible refine(KL.out _ (HGV.out.trans b_11)).mono ?_);rintro e w5 ⟨m5,v5,rfl,hm5,hl5,h5,gq⟩;have GQ:=uZ (show aA w0 w5 from uY b_11 gq);obtain⟨A5,c5,hA5,-⟩:=h5.open_;subst hA5;have HM5:=uZ hm5;have HS5:=uZ h5;have HL5:=uZ hl5;clear h5 gq hm5 hl5)|(go_at_call 85;(with_reducible refine(KOW.out _ HL5.out _ _ (HS5.out.mono b_11)).mono ?_);rintro e w6 ⟨rfl,gq⟩;have GZ:=uZ (GQ.out.trans (uY b_11 gq));clear gq))
    all_goals go_wp2_with fail
    all_goals go_meet
    all_goals exact⟨_,HM5.out,rfl,GZ.out⟩
   case rest =>
    exact c_30
  case neg =>
   have hk4:(o2 == 4)=false:=by simpa using h4
   have HR3:=uZ (HR2.out.trans (if_neg (by rw[hk1,hk4];simp)));clear HR2;by_cases h5:o2=5
   case pos =>
    subst h5;have hres:=HR3.out;rw[HHD.out] at hres;have x3:=h_167;have HRX:=uZ hres;have HSS:=uZ (fun W (g:aA w0 W)=>(⟨uQ g x3,g⟩:W.cell? ⟨XB,3,none⟩=some (.int .i64 o3)∧aA w0 W));clear HR3 hres;go_wp2_with fail;go_cut [7,8] from 44 to 51 (fun s7 s8 wx=>bDg OV w0 s7 wx)
    case first =>
     go_region_held3 (fun W=>W.cell? ⟨XB,3,none⟩=some (.int .i64 o3)∧aA w0 W) (refine HSS.out _ (by repeat (with_reducible first|exact uX _|exact GZ.out|exact GQ.out|refine uJ ?_|refine uU ?_ _|refine yZ ?_ (by first|exact Nat.le_refl _|exact GQ.out.size|exact GZ.out.size|simp) _))) (first|(go_at_call 53;(with_reducible refine(KE.out _ (HG0.out.trans b_11)).mono ?_);rintro e w5 ⟨v5,rfl,h5,gq⟩;have GQ:=uZ (show aA w0 w5 from uY b_11 gq);obtain⟨A5,c5,hA5,-⟩:=h5.open_;subst hA5;have HE5:=uZ h5;(try (have hdr:aA (w0.alloc (.cells [.int .i64 0,.int .i64 0,.int .i64 0].toArray 24)).drew w5:=b_44;have BX5:=uZ (aD (uY (uX _).drew hdr) (aO w0 (.cells [.int .i64 0,.int .i64 0,.int .i64 0].toArray 24)))));(try (have hdr:aA (w0.alloc (.cells [.int .i64 0,.int .i64 0,.int .i64 0].toArray 24)) w5:=b_44;have BX5:=uZ (aD hdr (aO w0 (.cells [.int .i64 0,.int .i64 0,.int .i64 0].toArray 24)))));clear h5 gq)|(go_at_call 86;(with_reducible refine(KOF.out _ _ (HE5.out.mono b_11)).mono ?_);rintro e w6 ⟨rfl,gq⟩;have GX:=uZ (show aA w5 w6 from uY b_11 gq);have GZ:=uZ (GQ.out.trans GX.out);(try (have BX:=uZ (aD GX.out BX5.out);have BL:=uZ (Nat.le_refl w0.heap.size)));(try (have hdr:aA (w5.alloc (.cells [.int .i64 0,.int .i64 0,.int .i64 0].toArray 24)).drew w6:=b_44;have BX:=uZ (aD (uY (uX _).drew hdr) (aO w5 (.cells [.int .i64 0,.int .i64 0,.int .i64 0].toArray 24)));have BL:=uZ GQ.out.size));(try (have hdr:aA (w5.alloc (.cells [.int .i64 0,.int .i64 0,.int .i64 0].toArray 24)) w6:=b_44;have BX:=uZ (aD hdr (aO w5 (.cells [.int .i64 0,.int .i64 0,.int .i64 0].toArray 24)));have BL:=uZ GQ.out.size));(try have q0:=aC (i:=0) (x:=.int .i64 0) BX.out rfl);(try have q1:=aC (i:=1) (x:=.int .i64 0) BX.out rfl);(try have q2:=aC (i:=2) (x:=.int .i64 0) BX.out rfl);(try have z0:=aS (i:=0) BX.out);(try have z1:=aS (i:=1) BX.out);(try have z2:=aS (i:=2) BX.out);clear gq))
     all_goals go_wp2_with fail
     all_goals go_meet
     all_goals with_reducible first|exact bCp (aD b_11 (aO w6 _)) (GZ.out.trans b_11)|exact aZk BX.out BL.out GZ.out
    case rest =>
     obtain⟨X7,rfl,hX7,hG⟩:=hcut;have HG7:=uZ (HG0.out.trans hG);have z1:wc.cell? ⟨X7,1,none⟩=some (.int .i64 (OV.getD cm0).acc):=aC hX7 rfl;clear hX7 hG x3 HSS;generalize (OV.getD cm0).acc=ac at z1 HRX;cases hac:(ac != 0)
     case false =>
      have hres:RES=0:=by
       have h:=HRX.out;rw[hac] at h;simpa using h
      subst hres;go_wp2;go_ret;exact⟨rfl,HG7.out⟩
     case true =>
      have hres:RES=21:=by
       have h:=HRX.out;rw[hac] at h;simpa using h
      subst hres;go_wp2;go_ret;exact⟨rfl,HG7.out⟩
   case neg =>
    have hk5:(o2 == 5)=false:=by simpa using h5
    have HR4:=uZ (HR3.out.trans (if_neg (fun k=>h5 k.1)));clear HR3;by_cases h6:o2=6
    case neg =>
     have hk6:(o2 == 6)=false:=by simpa using h6
     have hres:=HR4.out.trans (if_neg h6);subst hres;clear h1 h4 h5 h6;go_wp2;go_ret;exact⟨rfl,HG0.out⟩
    case pos =>
     subst h6;have HR5:=uZ (HR4.out.trans (if_pos rfl));have x3:=h_167;clear HR4;go_wp2_with fail;refine(KF.out _ HG0.out).mono ?_;rintro e w5 ⟨rfl,gq⟩;have HG5:=uZ (HG0.out.trans gq);clear gq y2 x3;dsimp only;have hfp:=HFP.out;generalize lL (fun o:Opn=>o.id == o3) l=ix at hfp ⊢;rcases hfp with ⟨rfl,ho⟩|⟨k,hk,rfl,hcs⟩
     ·have hres:=HR5.out
      rw[ho] at hres;subst hres;go_wp2;go_ret;exact⟨rfl,HG5.out⟩
     ·have hkz:(k:Int)<(l.length:Int):=by omega
      have hk0:=h_216;obtain⟨b,off,rfl,hbb,hcell⟩:=HR.out b_53;have HCE:=uZ (fun W (g:aA w W)=>hcell W g k hk);have KC1:=uZ (KC.out k hk);obtain⟨-,-,c2,-⟩:=HCE.out w5 HG5.out;clear hcell;rcases hcs with ⟨hz6,ho⟩|⟨hz6,ho⟩
      ·have hres:RES=7:=by
        have h:=HR5.out;rw[ho] at h;exact h
       generalize l[k].kind=zk at c2 hz6;subst hz6 hres;clear HCE KC1 ho;go_wp2;go_ret;exact⟨rfl,HG5.out⟩
      ·have hres:RES=if l[k].kind=1∧l[k].acc≠0∧cE l l[k]=true then 21 else 0:=by
        have h:=HR5.out;rw[ho] at h;exact h
       have HRE:=uZ hres;clear hres;generalize cE l l[k]=cb at KC1 HRE;generalize l[k]=z at c2 HCE HRE hz6;obtain⟨z0,z1,z2,z3,z4,z5,z6,z7,z8,z9,z10,z11⟩:=z;dsimp only at c2 HCE HRE hz6;have hb6:(z2 == 6)=false:=by simpa using hz6
       clear ho hz6;go_wp2_with fail;refine(KC1.out _ HG5.out).mono ?_;rintro e w6 ⟨rfl,gq⟩;have HG6:=uZ (HG5.out.trans gq);clear gq c2;obtain⟨-,-,c2,-,-,-,-,-,-,-,c10,-⟩:=HCE.out w6 HG6.out;have c10b:w6.cell? ⟨b,off+k*12+9+1,none⟩=some (.int .i64 z10):=c10;clear c10;dsimp only;cases cb
       case false =>
        have hres:=HRE.out.trans (if_neg (fun h=>Bool.false_ne_true h.2.2));subst hres;exact e_23
       case true =>
        by_cases hz1:z2=1
        ·subst hz1
         by_cases hz10:z10=0
         ·have hb:(z10 != 0)=false:=by simpa using hz10
          have hres:=HRE.out.trans (if_neg (fun h=>h.2.1 hz10));subst hres;clear hz10;exact e_23
         ·have hb:(z10 != 0)=true:=by simpa using hz10
          have hres:=HRE.out.trans (if_pos ⟨rfl,hz10,rfl⟩);subst hres;clear hz10;exact e_23
        ·have hb:(z2 == 1)=false:=by simpa using hz1
         have hres:=HRE.out.trans (if_neg (fun h=>hz1 h.1));subst hres;clear hz1;exact e_23
):p:=h
theorem aGv (l:List Opn) (o:Opn) (hA:gD l) (hf:aP o=true) (hlen:l.length≤1000000) (lv:Value) (w:World) (hv:SlO w lv l):Calls Tryz.prog 65 #[lv,o.agg] w fun e w'=>e=.returned (.int .i64 (aJq l o))∧aA w w':=by
 have KCR:=uZ (fun(hk:o.kind=1) W (g:aA w W)=>aHa l o hA hf hk hlen lv W (hv.mono g));have KL:=uZ (fun W (g:aA w W)=>zJ l hA hlen lv W (hv.mono g));have KE:=uZ (fun W (g:aA w W)=>oE l hlen lv W (hv.mono g));have KOF:=uZ (fun v W (h:SlC W v (aW l))=>aUt (aW l) o.unit (Nat.le_trans (tG l) hlen) v W h);have KF:=uZ (fun W (g:aA w W)=>aPy l o.unit hlen lv W (hv.mono g));have KC:=uZ (fun i (hi:i<l.length) W (g:aA w W)=>sQ l i hi hlen lv W (hv.mono g));have KOW:=uZ (fun m (h:m.length≤l.length) v W (hs:SlM W v m)=>aPu m o.mark b_53 v W hs);have HOP:=uZ (fun m (h:cU l m)=>aLg hA h o.mark);have HFP:=uZ (aHy hA o.unit);have HHD:=uZ (aWb hA o.unit);generalize hR:aJq l o=RES;unfold aJq cJ qU at hR;have HRES:=uZ hR.symm;obtain⟨A,c,rfl,hlc,hcap,hr⟩:=hv.open_;unfold maxLen at hcap;have HR:=uZ hr;have HN:=uZ hlen;generalize sB (aW l) o.came=AE at KCR HRES;generalize (aW l).any (fun x=>x.unit == o.unit && x.acc != 0)=HB at HHD HRES;generalize aW l=EV at KE KOF HHD;obtain⟨o0,o1,o2,o3,o4,o5,o6,o7,o8,o9,o10,o11⟩:=o;unfold Opn.agg at KCR ⊢;unfold aIu at KOF;dsimp only at KCR KOF KF KOW HOP HFP HHD HRES ⊢;generalize ofC EV o3=OV at KOF HHD;have HX0:=h_32;have HG0:=h_26;clear hv hr hf hA hlen hR;have nX:zGk:=()
 exact s_36
end Go.Proofs.YtdochkemaiokfaaGreat






