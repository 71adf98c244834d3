/- Lemmas on what the functions of the program and of the library compute: T7, A6, B2, B3, T8, T9, Ins, InsR, App3. The conditions stand at each. -/
import Derived.Test.YtdochkemaiokfaaGreatQ3
import Derived.Test.YtdochkemaiokfaaGreatQ2
import Derived.Lib.Overlaps
import Derived.Lib.AppendZerosOnto
import Derived.Laws.CopyOwn
import Derived.Deep.RegionLaw
import Derived.Deep.AppendLies
set_option maxHeartbeats 16000000
set_option maxRecDepth 100000
set_option linter.all false
namespace Go.Proofs.YtdochkemaiokfaaGreat
open Go.RowKit
theorem c_49 {p:Prop} (h:p:=by
 go_wp2_with fail;refine(K.out _ ((uX w).alloc _)).mono ?_;rintro e w1 ⟨i,n,rfl,hn,g⟩;have HN:=uZ hn;have HG:=uZ (((uX w).alloc _).trans g);clear hn g;dsimp only;cases hz:(n == 0)
 ·go_wp2
  go_ret;exact⟨false,rfl,⟨(fun h=>by cases h),(fun h=>by rw[HN.out.2 h] at hz;cases hz)⟩,HG.out⟩
 ·go_wp2
  go_ret;exact⟨true,rfl,⟨fun _=>HN.out.1 (by simpa using hz),fun _=>rfl⟩,HG.out⟩
):p:=h
def bBt (P:Prop) (w:World) (e:Ending) (w':World):Prop:=∃ b:Bool,e=.returned (.bool b)∧(b=true↔P)∧aA w w'
theorem aSv (rs:List Int) (l:List Br) (rv bv:Value) (w:World) (hE:Env w) (hr:SlI w rv rs) (hv:bQ w bv l) (hf:cF l) (hrl:rs.length≤1000000) :
  Calls Tryz.prog 239 #[.agg #[rv,bv]] w (bBt (aM ⟨rs,l⟩) w):=by
 have K:=uZ (fun W (hW:aA w W)=>aSx rs l rv bv W (hE.mono hW) (hr.mono hW) (hv.mono hW) hf hrl);clear hE hr hv hf hrl;go_enter Tryz.func239,Tryz.ntmps239;exact c_49
def br0:Br:=⟨0,0,0,⟨#[]⟩,⟨#[]⟩,[]⟩
def aY (o:Option Br) (w:World) (e:Ending) (w':World):Prop :=
 e=.returned (.tuple #[.agg #[.int .i64 (o.getD br0).id,.int .i64 (o.getD br0).parent,.int .i64 (o.getD br0).level,.string (o.getD br0).title,.string (o.getD br0).mark],.bool o.isSome])∧aA w w'
theorem aJ {w:World} {base:Nat} {e:TypeId} {k:Nat} {v:Value} {n:Nat} {xs:List Value} (h:w.ownsRow base e k v n xs):∃ A c,v=.slice A n c:=by
 rcases h.2 with ⟨rfl,rfl⟩|⟨g,cap,cur,rfl,_⟩
 ·exact⟨_,_,rfl⟩
 ·exact⟨_,_,rfl⟩
theorem uQ {W X:World} (g:aA W X) {p:Addr} {v:Value} (h:W.cell? p=some v):X.cell? p=some v:=(g.cell (World.block_lt_of_cell? W _ h)).trans h
theorem uM {i:Int} {a b:Bool} (h:a=b):Ending.returned (.tuple #[.int .i64 i,.bool a])=.returned (.tuple #[.int .i64 i,.bool b]):=by rw[h]
def eH {α:Type} (p:α→Bool) (l:List α):Nat:=(l.takeWhile p).length
theorem lW {α:Type} (p:α→Bool) (l:List α) (i:Nat) (hi:i≤l.length) (h1:∀ t (h:t<l.length),t<i→p l[t]=true) (h2:∀ t (h:t<l.length),i≤t→p l[t]=false):eH p l=i:=by
 unfold eH
 induction l generalizing i with
 | nil=>simp at hi;simp[hi]
 | cons x r ih =>
  cases i with
  | zero =>
   have:=h2 0 b_54 b_53;simp only [List.getElem_cons_zero] at this;simp[this]
  | succ i =>
   have:=h1 0 b_54 b_53;simp only [List.getElem_cons_zero] at this;rw[List.takeWhile_cons,if_pos this,List.length_cons,ih i (by simpa using hi) (fun t h ht=>h1 (t+1) (Nat.succ_lt_succ h) b_53) (fun t h ht=>h2 (t+1) (Nat.succ_lt_succ h) b_53)]
def rJ {α:Type} (q:α→Bool) (l:List α) (i:Nat):Bool:=match l[i]? with
 | none=>false
 | some y=>q y
theorem c_101 {p:Prop} (h:p:=by
 go_wp2_with fail;refine(H1.out _).mono ?_;rintro e w1 ⟨rfl,rfl⟩;dsimp only;go_wp2;go_ret;exact⟨rfl,(uX w).alloc _⟩
):p:=h
theorem h_45 {p:Prop} (h:p:=by
 exact(show RowKit.Hid (¬ cV id l[(i+j) / 2]<0→∀ t (h:t<l.length),(i+j) / 2≤t→¬ cV id l[t]<0) from fun h t ht htk h3=>h (HM.out _ t hkl ht htk h3))
):p:=h
theorem h_46 {p:Prop} (h:p:=by
 exact(show RowKit.Hid (cV id l[(i+j) / 2]<0→∀ t (h:t<l.length),t<(i+j) / 2+1→cV id l[t]<0) from fun h t ht htk=>HM.out t _ ht hkl b_53 h)
):p:=h
theorem h_120 {p:Prop} (h:p:=by
 exact(show(cV id l[P0] == 0)=hb0 from by
  rw[← HH0.out];simp only [rJ,List.getElem?_eq_getElem hil]
  rfl)
):p:=h
theorem h_123 {p:Prop} (h:p:=by
 exact HP.out i hj (fun t h ht=>by simpa using M1.out t h ht) (fun t h ht=>by simpa using M2.out t h ht)
):p:=h
theorem h_153 {p:Prop} (h:p:=by
 exact(show((i:Int)+(j:Int)) / 2=(((i+j) / 2:Nat):Int) from by omega)
):p:=h
theorem h_168 {p:Prop} (h:p:=by
 exact(show(((i:Int)+(j:Int)) / 2).toNat=(i+j) / 2 from by omega)
):p:=h
theorem h_172 {p:Prop} (h:p:=by
 exact(show((i:Int)+(j:Int)) / 2<(l.length:Int) from by omega)
):p:=h
theorem h_178 {p:Prop} (h:p:=by
 exact(show(i:Int)+(j:Int)<2*(l.length:Int) from by omega)
):p:=h
theorem h_191 {p:Prop} (h:p:=by
 exact(show(0:Int)≤((i:Int)+(j:Int)) / 2 from by omega)
):p:=h
theorem s_27 {p:Prop} (h:p:=by
 have hmid:=h_153;have hk1:i≤(i+j) / 2:=by omega
 have hk2:(i+j) / 2<j:=by omega
 have hkl:(i+j) / 2<l.length:=by omega
 have hkz:=h_178;have hkz2:=h_172;have h0z:=h_191;have htn:=h_168;obtain⟨b,off,rfl,hb,hcell⟩:=HR.out b_53;obtain⟨kv,hkv,hcl⟩:=hcell ((i+j) / 2) hkl;obtain⟨c0,c1,c2,c3,c4,c5⟩:=hcl wr BW.out;obtain⟨Az,cz,rfl,-,-,-⟩:=hkv.open_;have HN1:=h_46;have HN2:=h_45;have HMID:=uZ hmid;clear hcell hcl hkv hmid;unfold cV at HN1 HN2;generalize l[(i+j) / 2]=y at c0 c1 c2 c3 c4 c5 HN1 HN2;obtain⟨yi,yp,yl,yt,ym,yk⟩:=y;dsimp only at c0 c1 c2 c3 c4 c5 HN1 HN2;exact nX.g
):p:=h
theorem f_3 {p:Prop} (h:p:=by
 dsimp only [BrC.agg] at kC;generalize Lib.compareInt yi id=r at kC HN1 HN2;have KC:=uZ kC;clear kC;by_cases hneg:r<0
 ·have Hn:=uZ (HN1.out hneg)
  go_wp2_with fail;refine(KC.out _).mono ?_;rintro e w1 ⟨rfl,g1⟩;have HG1:=uZ g1;clear g1;dsimp only;go_wp2;rw[HMID.out];go_roundg (j-((i+j) / 2+1))
  case measure=>omega
  case rel=>exact⟨(i+j) / 2+1,j,by omega,by omega,by omega,by go_num,rfl,(show Aside _ from BW.out.trans HG1.out),(show Aside _ from Hn.out),M2⟩
 ·have hneg':decide (r<0)=false:=by simpa using hneg
  have Hn:=uZ (HN2.out hneg);go_wp2_with fail;refine(KC.out _).mono ?_;rintro e w1 ⟨rfl,g1⟩;have HG1:=uZ g1;clear g1;dsimp only;go_wp2;rw[HMID.out];go_roundg ((i+j) / 2-i)
  case measure=>omega
  case rel=>exact⟨i,(i+j) / 2,by omega,by omega,by omega,rfl,rfl,(show Aside _ from BW.out.trans HG1.out),M1,(show Aside _ from Hn.out)⟩
):p:=h
theorem bDo (y:BrC) (id:Int) (w:World):Calls Tryz.prog 249 #[y.agg,.int .i64 id] w fun e w'=>e=.returned (.int .i64 (Lib.compareInt y.id id))∧aA w w':=by
 have h1:=Tryz.cmp_Compare_int y.id id;unfold BrC.agg;generalize Lib.compareInt y.id id=r at h1;have H1:=uZ h1;clear h1;go_enter Tryz.func249,Tryz.ntmps249;exact c_101
def cV (id:Int) (b:Br):Int:=Lib.compareInt b.id id
def zFv:=Unit
theorem zFv.g {p:Prop} (_:zFv) (h:p:=by
 have kC:=fun W=>bDo ⟨yi,yp,yl,yt,ym,.slice Az yk.length cz⟩ id W
 exact f_3
):p:=h
theorem aUr (l:List Br) (id:Int) (v:Value) (w:World) (hv:bQ w v l) (hlen:l.length≤1000000)
  (hm:∀ i j (hi:i<l.length) (hj:j<l.length),i≤j→cV id l[j]<0→cV id l[i]<0) :
  Calls Tryz.prog 181 #[v,.int .i64 id,.func (.func 249) #[] #[]] w fun e w' =>
   e=.returned (.tuple #[.int .i64 (eH (fun y=>decide (cV id y<0)) l),.bool (rJ (fun y=>decide (cV id y=0)) l (eH (fun y=>decide (cV id y<0)) l))])∧aA w w':=by
 obtain⟨A,c,rfl,hlc,hcap,hr⟩:=hv.open_;have HR:=uZ hr;have HM:=uZ hm;have HP:=uZ (lW (fun y=>decide (cV id y<0)) l);clear hv hr hm hcap hlc;generalize eH (fun y=>decide (cV id y<0)) l=P0 at HP ⊢;generalize hh0:rJ (fun y=>decide (cV id y=0)) l P0=hb0;have HH0:=uZ hh0;clear hh0;go_enter Tryz.func181,Tryz.ntmps181;go_wp2;go_loopg [9,10] l.length (fun gg s9 s10 wr=>∃ i j:Nat,i≤j∧j≤l.length∧j-i≤gg∧s9=.int .i64 i∧s10=.int .i64 j∧Aside (aA w wr)∧Aside (∀ t (h:t<l.length),t<i→cV id l[t]<0)∧Aside (∀ t (h:t<l.length),j≤t→¬ cV id l[t]<0))
 case atStart=>exact⟨0,l.length,by omega,by omega,by omega,rfl,rfl,(show Aside _ from uX _),(show Aside _ from fun t h ht=>by omega),(show Aside _ from fun t h ht=>by omega)⟩
 case round =>
  obtain⟨i,j,hij,hj,hgk,rfl,rfl,BW,M1,M2⟩:=hrel;by_cases hlt:i<j
  ·have hltz:(i:Int)<(j:Int):=by omega
   have nX:zFv:=()
   exact s_27
  ·have hltz:¬ (i:Int)<(j:Int):=by omega
   obtain rfl:i=j:=by omega
   have hP:=h_123;subst hP;by_cases hil:P0<l.length
   ·have hilz:(P0:Int)<(l.length:Int):=by omega
    have h0z:(0:Int)≤(P0:Int):=by omega
    obtain⟨b,off,rfl,hb,hcell⟩:=HR.out b_53;obtain⟨kv,hkv,hcl⟩:=hcell P0 hil;obtain⟨c0,c1,c2,c3,c4,c5⟩:=hcl wr BW.out;obtain⟨Az,cz,rfl,-,-,-⟩:=hkv.open_;have hh:=h_120;unfold cV at hh;clear hcell hcl hkv;generalize l[P0]=y at c0 c1 c2 c3 c4 c5 hh;obtain⟨yi,yp,yl,yt,ym,yk⟩:=y;dsimp only at c0 c1 c2 c3 c4 c5 hh;have kC:=fun W=>bDo ⟨yi,yp,yl,yt,ym,.slice Az yk.length cz⟩ id W
    dsimp only [BrC.agg] at kC;generalize Lib.compareInt yi id=r at kC hh;have KC:=uZ kC;have HHE:=uZ hh;clear kC hh;go_wp2_with fail;refine(KC.out _).mono ?_;rintro e w1 ⟨rfl,g1⟩;have HG1:=uZ g1;clear g1;dsimp only;go_wp2;go_ret2;exact⟨uM HHE.out,BW.out.trans HG1.out⟩
   ·have hilz:decide ((P0:Int)<(l.length:Int))=false:=by simp;omega
    have hh:false=hb0:=by rw[← HH0.out];simp[rJ,hil]
    have HHE:=uZ hh;clear hh;go_wp2;go_ret2;exact⟨uM HHE.out,BW.out⟩
theorem tAt (l:List Br) (id:Int) (rv bv:Value) (w:World) (hv:bQ w bv l) (hlen:l.length≤1000000)
  (hm:∀ i j (hi:i<l.length) (hj:j<l.length),i≤j→cV id l[j]<0→cV id l[i]<0) :
  Calls Tryz.prog 240 #[.agg #[rv,bv],.int .i64 id] w fun e w' =>
   e=.returned (.tuple #[.int .i64 (eH (fun y=>decide (cV id y<0)) l),.bool (rJ (fun y=>decide (cV id y=0)) l (eH (fun y=>decide (cV id y<0)) l))])∧aA w w':=by
 have K:=uZ (fun W (hW:aA w W)=>aUr l id bv W (hv.mono hW) hlen hm);generalize rJ (fun y=>decide (cV id y=0)) l (eH (fun y=>decide (cV id y<0)) l)=hb at K ⊢;generalize eH (fun y=>decide (cV id y<0)) l=P0 at K ⊢;clear hv hm;go_enter Tryz.func240,Tryz.ntmps240;go_wp2_with fail;refine(K.out _ ((uX w).alloc _)).mono ?_;rintro e w1 ⟨rfl,g1⟩;dsimp only;go_wp2;go_ret2;exact⟨rfl,((uX w).alloc _).trans g1⟩
theorem h_217 {p:Prop} (h:p:=by
 exact uZ (((uX w).alloc _).trans BW.out)
):p:=h
theorem aDf {l:List Br} (h:∀ i (h:i<l.length),cB l i h):∀ i j (hi:i<l.length) (hj:j<l.length),i<j→l[i].id<l[j].id:=by
 intro i j hi hj hij
 induction j with
 | zero=>omega
 | succ j ih =>
  have h1:=(h (j+1) hj).2.2.1 b_53;simp only [Nat.add_sub_cancel] at h1;by_cases e:i=j
  ·subst e;exact h1
  ·have:=ih b_53 b_53
   omega
theorem jB (id:Int) (b:Br):cV id b<0↔b.id<id:=by
 unfold cV Lib.compareInt;split
 ·simp[*]
 ·split<;>simp<;>omega
theorem yC (id:Int) (b:Br):cV id b=0↔b.id=id:=by
 unfold cV Lib.compareInt;split
 ·simp;omega
 ·split<;>simp<;>omega
theorem vQ {l:List Br} (h:∀ i (h:i<l.length),cB l i h) (id:Int):∀ i j (hi:i<l.length) (hj:j<l.length),i≤j→cV id l[j]<0→cV id l[i]<0:=by
 intro i j hi hj hij hc;rw[jB] at hc ⊢;by_cases e:i=j
 ·subst e;exact hc
 ·have:=aDf h i j hi hj b_53
  omega
theorem aOd {l:List Br} (h:∀ i (h:i<l.length),cB l i h) (id:Int) (k:Nat) (hk:k<l.length) (hid:l[k].id=id):eH (fun y=>decide (cV id y<0)) l=k∧rJ (fun y=>decide (cV id y=0)) l k=true:=by
 constructor
 ·refine lW _ l k b_53 (fun t ht htk=>?_) (fun t ht htk=>?_)
  ·have:=aDf h t k ht hk htk
   simp only [decide_eq_true_eq,jB];omega
  ·simp only [decide_eq_false_iff_not,jB]
   by_cases e:k=t
   ·subst e;omega
   ·have:=aDf h k t hk ht b_53
    omega
 ·simp only [rJ,List.getElem?_eq_getElem hk,decide_eq_true_eq,yC]
  exact hid
theorem aOe {l:List Br} (id:Int) (hf:aE l id=none) (k:Nat):rJ (fun y=>decide (cV id y=0)) l k=false:=by
 unfold rJ
 cases hk:l[k]? with
 | none=>rfl
 | some y =>
  have hm:y∈l:=List.mem_of_getElem? hk;have:=List.find?_eq_none.1 hf y hm;simp only [decide_eq_false_iff_not,yC];simpa using this
def nO (l:List Br) (ids:List Int):Int:=if ids.all (fun id=>(aE l id).isSome) then 0 else 7
theorem aRj {l:List Br} (h:∀ i (h:i<l.length),cB l i h) (id:Int):rJ (fun y=>decide (cV id y=0)) l (eH (fun y=>decide (cV id y<0)) l)=(aE l id).isSome:=by
 cases ho:aE l id with
 | none=>exact aOe id ho _
 | some b =>
  obtain⟨k,hk,_,e⟩:=gK ho
  have hid:l[k].id=id:=by
   rw[e];have:=List.find?_some ho;simpa using this
  obtain⟨h1,h2⟩:=aOd h id k hk hid;rw[h1,h2];rfl
theorem aXy (rs:List Int) (l:List Br) (ids:List Int) (rv bv kv:Value) (w:World) (hE:Env w) (hr:SlI w rv rs) (hv:bQ w bv l) (hk:SlI w kv ids) (hf:cF l) (hrl:rs.length≤1000000) (hT:aM ⟨rs,l⟩) :
  Calls Tryz.prog 220 #[.agg #[rv,bv],kv] w fun e w'=>e=.returned (.int .i64 (nO l ids))∧aA w w':=by
 have KR:=uZ (fun W (hW:aA w W)=>aSv rs l rv bv W (hE.mono hW) (hr.mono hW) (hv.mono hW) hf hrl);have KA:=uZ (fun id W (hW:aA w W)=>tAt l id rv bv W (hv.mono hW) hf.1 (vQ hT.2.1 id));have HF:=uZ (fun id=>aRj hT.2.1 id);have HT:=uZ hT;obtain⟨Ab,cb,rfl,-,-,-⟩:=hv.open_;obtain⟨A,c,rfl,hlc,hc,hkr⟩:=hk.open_;unfold maxLen at hc;have HK:=uZ hkr;obtain⟨Ar,cr,rfl,-,-,-⟩:=hr.open_;clear hE hr hv hk hf hrl hT hkr;generalize hKF:nO l ids=R;have HKF:=uZ hKF;clear hKF;go_enter Tryz.func220,Tryz.ntmps220;go_wp2_with fail;refine(KR.out _ ((uX w).alloc _)).mono ?_;rintro e w1 ⟨bb,rfl,hbb,g1⟩;obtain rfl:=hbb.2 HT.out;have HG1:=uZ g1;clear hbb g1;dsimp only;go_wp2;go_loopg [14] ids.length (fun gg s14 wr=>∃ k:Nat,k≤ids.length∧ids.length-k≤gg∧s14=.int .i64 k∧Aside (aA (w.alloc (.cells [.slice Ar rs.length cr,.slice Ab l.length cb].toArray 43)) wr)∧Aside (∀ i (h:i<ids.length),i<k→(aE l ids[i]).isSome=true))
 case atStart=>exact⟨0,by omega,by omega,rfl,(show Aside _ from HG1.out),(show Aside _ from fun i h h2=>by omega)⟩
 case round =>
  obtain⟨k,hkk,hgk,rfl,BW,M⟩:=hrel;have HGW:=h_217;by_cases hlt:k<ids.length
  case neg =>
   have hltz:¬ (k:Int)<(ids.length:Int):=by omega
   have hR:R=0:=by
    rw[← HKF.out,nO,if_pos];rw[List.all_eq_true];intro x hx;obtain⟨i,hi,rfl⟩:=List.mem_iff_getElem.1 hx;exact M.out i hi b_53
   have HRR:=uZ hR;clear hR;go_wp2;go_ret;exact⟨congrArg (fun z=>Ending.returned (Value.int .i64 z)) HRR.out.symm,HGW.out⟩
  have hltz:(k:Int)<(ids.length:Int):=by omega
  have h0z:=h_216;obtain⟨b,off,rfl,hb,hcell⟩:=HK.out b_53;have c0:=hcell wr HGW.out k hlt;have b0:=yQ BW.out 0 _ rfl;have b1:=h_234;have kA:=KA.out ids[k] wr HGW.out;rw[HF.out ids[k]] at kA
  have HBAD:RowKit.Hid ((aE l ids[k]).isSome=false→R=7):=fun h=>by
   rw[← HKF.out,nO,if_neg];rw[List.all_eq_true];intro hall;have:=hall ids[k] (List.getElem_mem hlt);rw[h] at this;cases this
  have HST:RowKit.Hid ((aE l ids[k]).isSome=true→∀ i (h:i<ids.length),i<k+1→(aE l ids[i]).isSome=true):=fun h i hi h2=>by
   exact c_119
  generalize (aE l ids[k]).isSome=q at kA HBAD HST;generalize ((eH (fun y=>decide (cV ids[k] y<0)) l:Nat):Int)=pp at kA;generalize ids[k]=x at c0 kA;have KAA:=uZ kA;clear hcell kA;go_wp2_with fail;refine KAA.out.mono ?_;rintro e w2 ⟨rfl,g2⟩;have HG2:=uZ g2;clear g2;dsimp only
  cases q with
  | false =>
   have HR7:=uZ (HBAD.out rfl);go_wp2;go_ret;exact⟨congrArg (fun z=>Ending.returned (Value.int .i64 z)) HR7.out.symm,HGW.out.trans HG2.out⟩
  | true =>
   have Hs:=uZ (HST.out rfl);go_wp2;go_roundg (ids.length-(k+1))
   case measure=>omega
   case rel=>exact⟨k+1,by omega,by omega,by go_num,(show Aside _ from BW.out.trans HG2.out),(show Aside _ from Hs.out)⟩
theorem oW {P:Program} (w:World) (dT sT ty elem:TypeId) (g o dLen dCap:Nat) (a:Addr) (sLen sCap k:Nat) (cur:List Value) (t:TypeId) (cs:List Value)
  (hu:P.underlying dT=some (.slice elem)) (hs:(P.info? elem).map (·.size)=some k) (hg:w.heap[g]? = some (.cells cur.toArray t (0,0))) (hn:cs.length=Nat.min sLen dLen*k)
  (hsrc:∀ j v,cs[j]? = some v→w.cell? (a.add j)=some v) (hfit:o+cs.length≤cur.length) (h1:∀ v∈cs,v.oneCell'=true) :
  (Builtin.copy_ #[dT,sT] ty #[.slice (some ⟨g,o,none⟩) dLen dCap,.slice (some a) sLen sCap]).run P w=.ok (goInt (Nat.min sLen dLen)) (w.setRow g (splice cur o cs).toArray):=by
 have hl:=run_loadCells_list (P:=P) w a cs hsrc;have hst:=run_storeCells_at P g o t cs 0 cur.toArray w hg (by simpa using hfit) h1
 cases hq:P.info? elem with
 | none=>simp[hq] at hs
 | some i =>
  have hi:i.size=k:=by simpa [hq] using hs
  rw[hn] at hl;simp[Builtin.copy_,run_underlying hu,Builtin.lenOf,Builtin.firstCells,sizeOf,typeInfo,hq,hi,hl,hst,splice]
theorem aIi {P:Program} {w:World} {ops:Array Oper} {rest:List Oper} {o:Oper} {a:Act} {Q:Exit→Act→World→Prop} (hgd:o.guard=none) (d s:Operand) (dT sT:TypeId)
  (ho:o.op=.call { callee:=.builtin .copy,args:=#[d,s],argTypes:=#[dT,sT] }) (elem:TypeId) (hu:P.underlying dT=some (.slice elem)) (k:Nat) (hsz:(P.info? elem).map (·.size)=some k)
  (g off dLen dCap:Nat) (ad:Addr) (sLen sCap:Nat) (hd:a.eval d=.slice (some ⟨g,off,none⟩) dLen dCap) (hs:a.eval s=.slice (some ad) sLen sCap)
  (cur:List Value) (t:TypeId) (hg:w.heap[g]? = some (.cells cur.toArray t (0,0))) (cs:List Value) (hn:cs.length=Nat.min sLen dLen*k)
  (hsrc:∀ j v,cs[j]? = some v→w.cell? (ad.add j)=some v) (hfit:off+cs.length≤cur.length) (h1:∀ v∈cs,v.oneCell'=true) (w0:World) (hb:aA w0 w) (hBg:w0.heap.size≤g)
  (h:∀ w',Hid (w'.heap[g]? = some (.cells (splice cur off cs).toArray t (0,0)))→Hid (aA w0 w')→Hid (∀ b,b≠g→w'.heap[b]? = w.heap[b]?)→wpList P ops Q rest (a.put o.dst (goInt (Nat.min sLen dLen))) w') :
  wpList P ops Q (o::rest) a w:=by
 refine wpList_plain hgd fun K hK=>?_
 have hrun:=oW (P:=P) w dT sT o.type elem g off dLen dCap ad sLen sCap k cur t cs hu hsz hg hn hsrc hfit h1;unfold Oper.wp;simp[execOp,ho,resolve,invoke,builtin,hd,hs,hrun,Result.andThen];exact hK _ _ (h _ (setRow_heap w g _ _ t _ hg) (below_setRow hb hBg _) (fun b hb=>setRow_other w g b _ hb))
theorem nI {P:Program} (w:World) (dT sT:TypeId) (elem:TypeId) (hu:P.underlying dT=some (.slice elem)) (k:Nat) (hsz:(P.info? elem).map (·.size)=some k)
  (g off dLen dCap:Nat) (ad:Addr) (sLen sCap:Nat) (cur:List Value) (t:TypeId) (hg:w.heap[g]? = some (.cells cur.toArray t (0,0))) (cs:List Value) (hn:cs.length=Nat.min sLen dLen*k)
  (hsrc:∀ j v,cs[j]? = some v→w.cell? (ad.add j)=some v) (hfit:off+cs.length≤cur.length) (h1:∀ v∈cs,v.oneCell'=true) (w0:World) (hb:aA w0 w) (hBg:w0.heap.size≤g) :
  ∃ w',(∀ ty,(Builtin.copy_ #[dT,sT] ty #[.slice (some ⟨g,off,none⟩) dLen dCap,.slice (some ad) sLen sCap]).run P w=.ok (goInt (Nat.min sLen dLen)) w')∧w'.heap[g]? = some (.cells (splice cur off cs).toArray t (0,0))∧aA w0 w'∧∀ b,b≠g→w'.heap[b]? = w.heap[b]? :=
 ⟨_,fun ty=>oW (P:=P) w dT sT ty elem g off dLen dCap ad sLen sCap k cur t cs hu hsz hg hn hsrc hfit h1,setRow_heap w g _ _ t _ hg,below_setRow hb hBg _,fun b hb=>setRow_other w g b _ hb⟩
theorem lP {α:Type} (p q r x:List α) (h:x.length≤r.length):splice (splice (p++q++r) (p.length+x.length) q) p.length x=p++x++q++(p++q++r).drop (p.length+x.length+q.length):=by
 generalize hC:p++q++r=C;have hl:p.length+x.length≤C.length:=by rw[← hC];simp;omega
 have hp:C.take p.length=p:=by rw[← hC,List.append_assoc,List.take_left]
 have h1:(splice C (p.length+x.length) q).take p.length=p:=by
  unfold splice;rw[List.take_append_of_le_length b_41,List.take_take,Nat.min_eq_left b_53,hp]
 have h2:(splice C (p.length+x.length) q).drop (p.length+x.length)=q++C.drop (p.length+x.length+q.length):=by
  unfold splice;rw[List.drop_append_of_le_length b_41,List.drop_eq_nil_of_le b_41,List.nil_append]
 rw[splice,h1,h2];simp
theorem pV {α:Type} (p q z x:List α):splice (splice (p++z) p.length x) (p.length+x.length) q=p++x++q++z.drop (x.length+q.length):=by
 have h1:splice (p++z) p.length x=p++x++z.drop x.length:=by
  unfold splice;rw[List.take_left,List.drop_append,List.drop_eq_nil_of_le b_53,Nat.add_sub_cancel_left];simp
 rw[h1,splice];rw[show p.length+x.length=(p++x).length by simp,List.take_left,List.drop_append,List.drop_eq_nil_of_le b_53,Nat.add_sub_cancel_left,List.drop_drop];simp
theorem dV {w:World} {g:Nat} {cs:List Value} {t:TypeId} {ab:Nat × Nat} (h:w.heap[g]? = some (.cells cs.toArray t ab)) (j:Nat) (v:Value) (hj:cs[j]? = some v):w.cell? ⟨g,j,none⟩=some v:=by
 rw[cell_of_row _ _ _ _ _ _ h];simpa using hj
def tQ (n:Nat) (v:Value):Prop:=∀ k,v.ownBlock=some k→n≤k
theorem tQ.nil (n c d:Nat):tQ n (.slice none c d):=fun k hk=>by simp[Value.ownBlock] at hk
theorem tQ.at_ {n b o c d:Nat} {s:Option Nat} (h:n≤b):tQ n (.slice (some ⟨b,o,s⟩) c d):=fun k hk=>by simp[Value.ownBlock] at hk;omega
theorem tQ.own {w:World} {base:Nat} {e:TypeId} {k:Nat} {v:Value} {n:Nat} {xs:List Value} (h:w.ownsRow base e k v n xs):tQ base v:=fun k hk=>(h.lt k hk).1
theorem tQ.le {m n:Nat} {v:Value} (h:tQ n v) (hm:m≤n):tQ m v:=fun k hk=>Nat.le_trans hm (h k hk)
theorem cT {α:Type} {f:α→List Value} {k:Nat} (hk:∀ x,(f x).length=k) (l:List α) (i:Nat):(l.flatMap f).take (i*k)=(l.take i).flatMap f∧(l.flatMap f).drop (i*k)=(l.drop i).flatMap f:=by
 induction l generalizing i with
 | nil=>simp
 | cons x r ih =>
  cases i with
  | zero=>simp
  | succ i =>
   have e:(i+1)*k=(f x).length+i*k:=by rw[hk,Nat.succ_mul];omega
   rw[List.flatMap_cons,e,List.take_length_add_append,List.drop_length_add_append,(ih i).1,(ih i).2];simp
def bBi (n:Nat) (w:World) (v:Value):Prop:=∀ k,v.ownBlock=some k→n≤k∧k<w.heap.size
theorem bBi.mono {n:Nat} {w w':World} {v:Value} (h:bBi n w v) (hs:w.heap.size≤w'.heap.size):bBi n w' v:=fun k hk=>⟨(h k hk).1,Nat.lt_of_lt_of_le (h k hk).2 hs⟩
theorem aIs {P:Program} (w:World) (t ty e:TypeId) (i:TypeInfo) (z:Value) (size bytes:Nat) (ht:P.underlying t=some (.slice e)) (hi:P.info? e=some i) (hz:i.zero=some z)
  (hsize:i.size=size) (hby:i.bytes=bytes) (hsz:0<size) (g:Nat) (u:Value) (m:Nat) (cs:List Value) (hu:Rd w size u cs) (hl:cs.length=m*size)
  (h63:m≤maxLen) (hbytes:m*bytes≤140737488355328) (base:Nat) (hb:base≤g) (hg:g<w.heap.size) :
  ∃ A n c w',(Builtin.append_ #[t,t] ty #[.slice (some ⟨g,0,none⟩) 0 0,u]).run P w=.ok (.slice A n c) w'∧Rd w' size (.slice A n c) cs∧aA w w'∧bBi base w' (.slice A n c):=by
 subst hsize
 subst hby;obtain⟨A,m',c,rfl,hl',hmc,hcm,hr⟩:=hu;obtain rfl:m'=m:=Nat.eq_of_mul_eq_mul_right hsz (hl'.symm.trans hl);rcases Nat.eq_zero_or_pos m' with h0|h0
 ·subst h0
  have hcs:=h_190;subst hcs;refine⟨some ⟨g,0,none⟩,0,0,w,?_,⟨_,0,0,rfl,by simp,Nat.le_refl _,Nat.zero_le _,fun h=>absurd h (Nat.lt_irrefl _)⟩,uX w,fun k hk=>by simp[Value.ownBlock] at hk;omega⟩
  cases A with
  | none=>simp[Builtin.append_,run_underlying ht,sizeOf,typeInfo,hi,Builtin.lenOf,Builtin.firstCells,storeCells]
  | some ad=>simp[Builtin.append_,run_underlying ht,sizeOf,typeInfo,hi,Builtin.lenOf,Builtin.firstCells,loadCells,loadCellsFrom,storeCells]
 ·obtain⟨b,off,rfl,hbl,hcell⟩:=hr h0
  unfold maxLen at h63;have hrun:=run_append_grow (P:=P) w t ty e i z ht hi hz ⟨g,0,none⟩ 0 0 [] b_54 (fun j v hj=>by simp at hj) ⟨b,off,none⟩ m' c cs hl (fun j v hj=>by rw[bT];exact hcell j v hj) b_53 b_53 (growslice_fits b_53 (by simpa using hbytes));refine⟨_,_,_,_,hrun,?_,((uX w).drew).alloc _,fun k hk=>by simp[Value.ownBlock] at hk;subst hk;exact⟨by omega,by simp⟩⟩;have hge:=grownCap_ge w (0+m') 0 e;have hle:=grownCap_le_maxLen w (0+m') 0 e b_47;refine⟨_,_,_,rfl,by rw[hl];simp,hge,hle,fun _=>⟨w.heap.size,0,rfl,by simp,fun j x hj=>?_⟩⟩;have hlast:=heap_alloc_last w.drew (.cells (([]:List Value).toArray++cs.toArray++Builtin.zeroCells z.cells (grownCap w (0+m') 0 e-(0+m'))) e);have hcl:=cell_of_row _ _ (0+j) _ _ _ hlast;have hjl:=(List.getElem?_eq_some_iff.1 hj).1;refine hcl.trans ?_;rw[Nat.zero_add];simp[Array.getElem?_append,hjl] ;exact List.getElem?_eq_some_iff.1 hj |>.2
theorem aQb {w w':World} {row:Option Nat} {k:Nat} {v:Value} {cs:List Value} (h:Rd w k v cs) (hg:w.grownBy w' row) (hr:∀ b,v.ownBlock=some b→row≠some b):Rd w' k v cs:=by
 obtain⟨A,n,c,rfl,hl,hn,hc,h0⟩:=h;refine⟨A,n,c,rfl,hl,hn,hc,fun hp=>?_⟩;obtain⟨b,off,rfl,hb,hcell⟩:=h0 hp;exact⟨b,off,rfl,Nat.lt_of_lt_of_le hb hg.size,fun j u hu=>hg.cell (hcell j u hu) (fun e=>hr b rfl e.symm)⟩
end Go.Proofs.YtdochkemaiokfaaGreat







