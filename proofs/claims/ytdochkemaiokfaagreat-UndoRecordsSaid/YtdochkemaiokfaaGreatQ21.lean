/- Lemmas on what the functions of the program and of the library compute: RE4, PlainU, RE5, SetI, H2, T11, Inh, RE6, RT2. The conditions stand at each. -/
import Derived.Test.YtdochkemaiokfaaGreatQ8
import Derived.Test.YtdochkemaiokfaaGreatQ5
import Derived.Test.YtdochkemaiokfaaGreatQ20
import Derived.Test.YtdochkemaiokfaaGreatQ3
import Derived.Test.YtdochkemaiokfaaGreatQ4
import Derived.Test.YtdochkemaiokfaaGreatQ19
import Derived.Test.YtdochkemaiokfaaGreatQ2
import Derived.Maps.RangeWalk
import Derived.Maps.OwnSet
import Derived.Sort.OwnSorted
import Derived.Maps.AppendAt
import Derived.RangeFuncBox
import Derived.RangeFuncLeaves
import Derived.OwnWalkIn
import Derived.TacticsInMore
import Derived.LoopNIn
import Derived.LoopIn
import Derived.Test.YtdochkemaiokfaaGreatProg
import Derived.Test.YtdochkemaiokfaaGreatQ1
import Derived.RangeFuncCalls
import Derived.Deep.RegionHeld3
import Derived.Lib.SlicesCompact
import Derived.Test.YtdochkemaiokfaaGreatQ15
set_option maxHeartbeats 16000000
set_option maxRecDepth 100000
set_option linter.all false
namespace Go.Proofs.YtdochkemaiokfaaGreat
open Go.RowKit
theorem h_104 {p:Prop} (h:p:=by
 exact uZ ((BW.out.trans g2).alloc (.cells #[.int .i64 yi,.int .i64 yp,.int .i64 yl,.string yt,.string ym] 64))
):p:=h
theorem h_105 {p:Prop} (h:p:=by
 exact uZ ((GW.out.trans g2).alloc (.cells #[.int .i64 yi,.int .i64 yp,.int .i64 yl,.string yt,.string ym] 64))
):p:=h
theorem h_110 {p:Prop} (h:p:=by
 exact uZ (OW.out.mono (g2.alloc (.cells #[.int .i64 yi,.int .i64 yp,.int .i64 yl,.string yt,.string ym] 64)))
):p:=h
theorem h_111 {p:Prop} (h:p:=by
 exact yQ (uX (w2.alloc (.cells #[.int .i64 yi,.int .i64 yp,.int .i64 yl,.string yt,.string ym] 64))) 1 _ rfl
):p:=h
theorem aEz {W:World} {base:Nat} {e:TypeId} {x:Value} (H:Nat) (hH:W.heap.size=H) (hb:base≤H):(W.alloc (.cells #[x] e)).ownsRow base e 1 (.slice (some ⟨H,0,none⟩) 1 1) 1 [x]:=by
 subst hH;exact⟨by simp,.inr ⟨W.heap.size,1,#[x],rfl,hb,heap_alloc_new W _,Nat.le_refl _,b_47,rfl,rfl⟩⟩
theorem aEy {w:World} {base:Nat} {v:Value} {x:Int} {out:List Int} (h:w.ownsRow base 3 1 v (1+out.length) ([.int .i64 x]++out.flatMap eE)):∃ A c,v=.slice A (out.length+1) c∧SlI w (.slice A (out.length+1) c) (x::out):=by
 have e:([.int .i64 x]++out.flatMap eE)=(x::out).flatMap eE:=by simp[eE]
 rw[e,Nat.add_comm] at h;have hs:SlI w v (x::out):=Rd.of_own h;obtain⟨A,c,hv,-⟩:=hs.open_;rw[List.length_cons] at hv;subst hv;exact⟨A,c,rfl,hs⟩
def bBr:Option Br→Int
 | none=>0
 | some c=>c.id
def aMx (l:List Br) (f:Nat) (out:List Int):Option Br→List Int
 | none=>out
 | some c=>match upW l f c with
  | none=>[]
  | some ids=>ids.reverse++out
theorem aMw (l:List Br) (out:List Int) (c:Br):aMx l 0 out (some c)=[]:=rfl
theorem aRk (l:List Br) (f:Nat) (out:List Int) (c:Br) (h:c.parent=0):aMx l (f+1) out (some c)=aMx l f (c.id::out) none:=by simp[aMx,upW,h]
theorem aWd (l:List Br) (f:Nat) (out:List Int) (c p:Br) (h:c.parent≠0) (hp:aE l c.parent=some p):aMx l (f+1) out (some c)=aMx l f (c.id::out) (some p):=by
 simp only [aMx,upW,if_neg h,hp];cases upW l f p<;>simp
theorem aKg (l:List Br) (b:Br) (rv bv:Value) (w:World) (hv:bQ w bv l) (hb:b∈l) (hf:∀ c∈l,aE l c.id=some c) (hz:∀ c∈l,c.id≠0) (hu:aUc l) (hl:l.length≤1000000) :
  Calls Tryz.prog 204 #[.agg #[rv,bv],.int .i64 b.id] w (bEn (wR l b) w):=by
 have HF:=uZ (fun n W (hW:aA w W)=>aR l n rv bv W (hv.mono hW));have HB:=uZ hf;have HZ:=uZ hz;have HU:=uZ hu
 have hR:wR l b=aMx l l.length [] (some b):=by
  show _=match upW l l.length b with
   | none=>[]
   | some ids=>ids.reverse++[]
  unfold wR;cases upW l l.length b<;>simp
 rw[hR];generalize hR0:aMx l l.length [] (some b)=R;have HR:=uZ hR0;have HM:=uZ hb;obtain⟨A,c,rfl,hlc,hc,-⟩:=hv.open_;unfold maxLen at hc;obtain⟨k0,hk0,hx0,hx1,hx2⟩:=info_parts lJ;generalize hid:b.id=bid;have HID:=uZ hid;clear hv hb hf hz hu hR hR0 hid;go_enter Tryz.func204,Tryz.ntmps204;go_wp2;go_loopg [1,5] (l.length+1) (fun gg s1 s5 wr=>∃(m:Nat) (cur:Option Br) (out:List Int),m≤l.length∧l.length+1-m≤gg∧out.length=m∧s1=.int .i64 (bBr cur)∧Aside (SlI wr s5 out)∧Aside (aA (w.alloc (.cells [rv,.slice A l.length c].toArray 43)) wr)∧Aside (∀ c,cur=some c→c∈l)∧Aside (aMx l (l.length-m) out cur=R))
 case atStart=>exact⟨0,some b,[],by omega,by omega,rfl,by rw[← HID.out];rfl,(show Aside _ from SlI.nil _),(show Aside _ from uX _),(show Aside _ from fun c h=>by cases h;exact HM.out),(show Aside _ from HR.out)⟩
 case round =>
  obtain⟨m,cur,out,hm,hgm,rfl,rfl,OW,BW,HC,HG⟩:=hrel;have GW:=h_217
  cases cur with
  | none =>
   have hRR:out=R:=HG.out;subst hRR;clear HG HC;unfold bBr;go_wp2;go_ret;exact⟨_,rfl,OW.out,GW.out⟩
  | some y =>
  have hmem:=HC.out y rfl;have hne:(y.id != 0)=true:=by simpa using HZ.out y hmem
  have kF:=fun W (hW:aA w W)=>HF.out y.id W hW
  simp only [HB.out y hmem] at kF;have KF:=uZ kF;obtain⟨A5,c5,rfl,hl5,hc5,-⟩:=OW.out.open_;unfold maxLen at hc5;have HUP:=uZ (HU.out y hmem);have HT:=uZ (fun f=>aRk l f out y);have HV:=uZ (fun f p=>aWd l f out y p);have t0:=yQ BW.out 0 _ rfl;have t1:=h_234;unfold bBr;obtain⟨yi,yp,yl,yt,ym,yk⟩:=y;dsimp only at hne KF HUP HT HV ⊢;have hfl:(out.flatMap eE).length=out.length*1:=aL eE 1 (fun _=>rfl) out;have HFL:=uZ hfl;clear kF hfl hmem;by_cases hover:l.length<out.length+1
  ·have hoverz:(l.length:Int)<(out.length:Int)+1:=by omega
   have hRR:R=[]:=by
    have h:=HG.out;rw[show l.length-out.length=0 by omega,aMw] at h;exact h.symm
   subst hRR;clear HG HC HT HV HUP hover;go_wp2_with fail;refine(KF.out _ GW.out).mono ?_;rintro e w2 ⟨rfl,g2⟩;have HG2:=h_104;have G2:=h_105;have OW2:=h_110;have u1:=h_111;have HU1:=uZ u1;clear g2 t0 t1 u1 KF;dsimp only;go_wp2_with (at_builtin;refine aXi rfl _ _ 38 rfl (w2.alloc (.cells #[.int .i64 yi,.int .i64 yp,.int .i64 yl,.string yt,.string ym] 64)) 3 k0 (.int .i64 0) 1 8 Tryz.underlying38 hk0 hx0 hx1 hx2 rfl b_53 _ 1 [.int .i64 yi] b_55 _ (aEz _ b_54 b_54) ((uX _).alloc _) _ out.length (out.flatMap eE) b_55 (Rd.mono OW2.out ((uX _).alloc _)) HFL.out (fI _) b_47 b_53 ?_;intro v5 w5 o5 g5 _;obtain⟨A6,c6,rfl,ho5⟩:=aEy o5;have O5:=uZ ho5;have tt1:=yQ (HG2.out.trans g5) 1 _ rfl;have uu1:=uQ g5 HU1.out;have G5:=uZ (G2.out.trans g5);have BW5:=uZ (HG2.out.trans g5);clear o5 g5 ho5)
   go_ret;exact⟨_,rfl,SlI.nil _,G5.out⟩
  have hoverz:¬ (l.length:Int)<(out.length:Int)+1:=by omega
  have hnx:∃ cur':Option Br,bBr cur'=yp∧(∀ c,cur'=some c→c∈l)∧aMx l (l.length-(out.length+1)) (yi::out) cur'=R:=by
   have h:=HG.out;rw[show l.length-out.length=(l.length-(out.length+1))+1 by omega] at h;by_cases hp:yp=0
   ·refine⟨none,by rw[hp];rfl,(fun c h=>by cases h),?_⟩
    rw[HT.out _ hp] at h;exact h
   ·rcases HUP.out with h1|⟨q,hq⟩
    ·exact absurd h1 hp
    ·refine⟨some q,(bE hq).2,(fun c h=>by cases h;exact(bE hq).1),?_⟩
     rw[HV.out _ q hp hq] at h;exact h
  obtain⟨cur',hc1,hc2,hc3⟩:=hnx;have H1:=uZ hc1;have H2:=uZ hc2;have H3:=uZ hc3;clear hc1 hc2 hc3 hover HG HC HT HV HUP;go_wp2_with fail;refine(KF.out _ GW.out).mono ?_;rintro e w2 ⟨rfl,g2⟩;have HG2:=h_104;have G2:=h_105;have OW2:=h_110;have u1:=h_111;have HU1:=uZ u1;clear g2 t0 t1 u1 KF;dsimp only;go_wp2_with (at_builtin;refine aXi rfl _ _ 38 rfl (w2.alloc (.cells #[.int .i64 yi,.int .i64 yp,.int .i64 yl,.string yt,.string ym] 64)) 3 k0 (.int .i64 0) 1 8 Tryz.underlying38 hk0 hx0 hx1 hx2 rfl b_53 _ 1 [.int .i64 yi] b_55 _ (aEz _ b_54 b_54) ((uX _).alloc _) _ out.length (out.flatMap eE) b_55 (Rd.mono OW2.out ((uX _).alloc _)) HFL.out (fI _) b_47 b_53 ?_;intro v5 w5 o5 g5 _;obtain⟨A6,c6,rfl,ho5⟩:=aEy o5;have O5:=uZ ho5;have tt1:=yQ (HG2.out.trans g5) 1 _ rfl;have uu1:=uQ g5 HU1.out;have G5:=uZ (G2.out.trans g5);have BW5:=uZ (HG2.out.trans g5);clear o5 g5 ho5)
  go_roundg (l.length+1-(out.length+1))
  case measure=>omega
  case rel=>exact⟨out.length+1,cur',yi::out,by omega,by omega,by rw[List.length_cons],by rw[H1.out],(show Aside _ from O5.out),(show Aside _ from BW5.out),(show Aside _ from H2.out),(show Aside _ from H3.out)⟩
theorem rG {α:Type} {r:α→α→Prop} (tr:∀ a b c,r a b→r b c→r a c):∀(l:List α),(∀(i:Nat) (h:i+1<l.length),r (l[i]'b_53) (l[i+1]'h))→l.Pairwise r
 | [],_=>List.Pairwise.nil
 | [_],_=>by simp
 | a::b::m,h=>by
  have ih:=rG (r:=r) tr (b::m) (fun i hi=>h (i+1) (by simpa using hi));have hab:r a b:=h 0 b_54;refine List.Pairwise.cons ?_ ih;intro x hx;rcases List.mem_cons.1 hx with rfl|hx
  ·exact hab
  ·exact tr _ _ _ hab (List.rel_of_pairwise_cons ih hx)
theorem e_14 {p:Prop} (h:p:=by
 go_wp2;go_roundg (l.length-(k+1))
 case measure=>omega
 case rel=>exact⟨k+1,by omega,by omega,by go_num,(show Aside _ from BG.out),(show Aside _ from Hy.out)⟩
):p:=h
theorem c_48 {p:Prop} (h:p:=by
 have HNN:=uZ hn;clear hn;dsimp only;by_cases hz:n=0
 case neg =>
  have hz':(n != 0)=true:=by simpa using hz
  have Hz:=uZ hz;have Hn:=uZ (HN.out (fun h=>hz (HNN.out.2 h)));clear hz;go_wp2;go_ret2;exact eG.no _ n Hz.out Hn.out HG.out
 ·subst hz
  have Hy:=uZ (HY.out (HNN.out.1 rfl));exact e_14
):p:=h
theorem c_83 {p:Prop} (h:p:=by
 exact e_14
):p:=h
theorem c_105 {p:Prop} (h:p:=by
 rw[← HPK.out]
 exact fun h j hj h2=>by
  by_cases e:j=k
  ·subst e;exact h
  ·exact M.out j hj b_53
):p:=h
theorem aOh {l:List Br} (h:∀ i (hi:i<l.length),cB l i hi):bP l :=
 rG (r:=fun(a b:Br)=>a.id<b.id) (fun(_ _ _:Br) h1 h2=>Int.lt_trans h1 h2) l (fun i hi=>by
  have:=(h (i+1) hi).2.2.1 b_53
  simpa using this)
theorem aOg {l:List Br} (h:∀ i (hi:i<l.length),cB l i hi):∀ b∈l,b.id≠0:=fun b hb e=>by
 obtain⟨k,hk,rfl⟩:=List.mem_iff_getElem.1 hb;have:=vX.1 (h k hk).1;omega
theorem zS {l:List Br} (h:∀ i (hi:i<l.length),aX l l[i]):aUc l:=fun b hb=>by
 obtain⟨k,hk,rfl⟩:=List.mem_iff_getElem.1 hb;have:=h k hk;unfold aX at this;by_cases hp:l[k].parent=0
 ·exact .inl hp
 ·rw[if_neg hp] at this
  obtain⟨p,hpp,_⟩:=this;exact .inr ⟨p,hpp⟩
theorem aHc (rs:List Int) (l:List Br) (rv bv:Value) (w:World) (hr:SlI w rv rs) (hv:bQ w bv l) (hf:cF l) (hrl:rs.length≤1000000) (hm:∀ i (h:i<l.length),l[i].mark.size≤9223372036854775807) :
  Calls Tryz.prog 146 #[.agg #[rv,bv]] w (eG (aM ⟨rs,l⟩) w):=by
 have HO:=uZ (fun i (hi:i<l.length) W (hW:aA w W)=>aPv l i hi rv bv W (hv.mono hW) (hm i hi));have HP:=uZ (fun y W (hW:aA w W)=>aPt l y rv bv W (hv.mono hW));have HK:=uZ (fun ks p kv W (hW:aA w W) (hk:SlI w kv ks) (h:ks.length≤1000000)=>aKm l ks p rv bv kv W (hv.mono hW) (hk.mono hW) hf.1 h);have HK0:=uZ (fun p W (hW:aA w W)=>aKm l rs p rv bv rv W (hv.mono hW) (hr.mono hW) hf.1 hrl);have HW:=uZ (fun b W (hW:aA w W) hb h1 h2 h3=>aKg l b rv bv W (hv.mono hW) hb h1 h2 h3 hf.1);have HD:RowKit.Hid (aM ⟨rs,l⟩↔l.length≤256∧(∀ i (h:i<l.length),cB l i h)∧(∀ i (h:i<l.length),aX l l[i])∧(∀ i (h:i<l.length),sortI l[i].kids=bH l l[i].id)∧sortI rs=bH l 0∧∀ i (h:i<l.length),eD l l[i]):=Iff.rfl;have HFK:=uZ hf.2;generalize aM ⟨rs,l⟩=PR at HD ⊢;obtain⟨A,c,rfl,hlc,hc,hcell0⟩:=hv.open_;obtain⟨B,d,rfl,-,-,-⟩:=hr.open_;unfold maxLen at hc;have HR:=uZ hcell0;have hl6:=hf.1;clear hcell0 hv hr hf hm hrl;by_cases h256:256<l.length
 ·have h256':(256:Int)<(l.length:Int):=by omega
  have Hn:RowKit.Hid (¬ PR):=fun h=>by have:=(HD.out.1 h).1;omega
  clear h256;go_enter Tryz.func146,Tryz.ntmps146;go_wp2;go_ret2;exact eG.no _ 8 b_52 Hn.out ((uX w).alloc _)
 have h256':=h_193;go_enter Tryz.func146,Tryz.ntmps146;go_wp2;go_loopg [4] l.length (fun gg s wr=>∃ k:Nat,k≤l.length∧l.length-k≤gg∧s=.int .i64 k∧Aside (aA (w.alloc (.cells [.slice B rs.length d,.slice A l.length c].toArray 43)) wr)∧Aside (∀ j (h:j<l.length),j<k→cB l j h))
 case atStart=>exact⟨0,by omega,by omega,rfl,(show Aside _ from uX _),(show Aside _ from fun j h h2=>absurd h2 (Nat.not_lt_zero _))⟩
 case round =>
  obtain⟨k,hk,hgk,rfl,BW,M⟩:=hrel;have GW:=h_217;have t0:=yQ BW.out 0 _ rfl;have t1:=h_234;by_cases hlt:k<l.length
  ·have hltz:(k:Int)<(l.length:Int):=by omega
   have kO:=HO.out k hlt wr GW.out;have hPK:∃ PK,RowKit.Hid (cB l k hlt=PK):=⟨_,rfl⟩
   obtain⟨PK,HPK⟩:=hPK;have HN:RowKit.Hid (¬ PK→¬ PR):=by rw[← HPK.out];exact fun h h2=>h ((HD.out.1 h2).2.1 k hlt)
   have HY:RowKit.Hid (PK→∀ j (h:j<l.length),j<k+1→cB l j h):=by
    exact c_105
   rw[HPK.out] at kO;have KO:=uZ kO;clear kO M;go_wp2_with fail;refine KO.out.mono ?_;rintro e w1 ⟨n,rfl,hn,g1⟩;have HG:=uZ (GW.out.trans g1);have BG:=uZ (BW.out.trans g1);clear g1 KO t0 t1;exact c_48
  have hltz:=h_198;have HALL1:RowKit.Hid (∀ j (h:j<l.length),cB l j h):=fun j h=>M.out j h b_53
  clear M;go_wp2;clear t0 t1;go_loopg [6] l.length (fun gg s wr=>∃ k:Nat,k≤l.length∧l.length-k≤gg∧s=.int .i64 k∧Aside (aA (w.alloc (.cells [.slice B rs.length d,.slice A l.length c].toArray 43)) wr)∧Aside (∀ j (h:j<l.length),j<k→aX l l[j]))
  case atStart=>exact⟨0,by omega,by omega,rfl,(show Aside _ from BW.out),(show Aside _ from fun j h h2=>absurd h2 (Nat.not_lt_zero _))⟩
  case round =>
   obtain⟨k,hk,hgk,rfl,BW,M⟩:=hrel;have GW:=h_217;have t0:=yQ BW.out 0 _ rfl;have t1:=h_234;by_cases hlt:k<l.length
   ·have hltz:(k:Int)<(l.length:Int):=by omega
    have h0z:=h_216;obtain⟨b,off,rfl,hb,hcell⟩:=HR.out b_53;obtain⟨kv,hkv,hcl⟩:=hcell k hlt;obtain⟨c0,c1,c2,c3,c4,c5⟩:=hcl wr GW.out;have kP:=fun W hW=>HP.out l[k] W hW
    have hPK:∃ PK,RowKit.Hid (aX l l[k]=PK):=⟨_,rfl⟩
    obtain⟨PK,HPK⟩:=hPK;have HN:RowKit.Hid (¬ PK→¬ PR):=by rw[← HPK.out];exact fun h h2=>h ((HD.out.1 h2).2.2.1 k hlt)
    have HY:RowKit.Hid (PK→∀ j (h:j<l.length),j<k+1→aX l l[j]):=by
     exact c_105
    rw[HPK.out] at kP;generalize l[k]=y at c0 c1 c2 c3 c4 c5 kP hkv;obtain⟨yi,yp,yl,yt,ym,yk⟩:=y;dsimp only at c0 c1 c2 c3 c4 c5 kP hkv;have KP:=uZ kP;clear kP M hcell hcl hkv c5;go_wp2_with fail;refine bN 7 (by kernel_rfl) (by kernel_rfl) ?_;simp only [List.take_succ_cons,List.take_zero,List.drop_succ_cons,List.drop_zero]
    iterate 7 still_step
    refine wpStill_nil ?_;go_wp2_with fail;refine(KP.out _ GW.out.drew).mono ?_;rintro e w1 ⟨n,rfl,hn,g1⟩;have HG:=uZ (GW.out.drew.trans g1);have BG:=uZ (BW.out.drew.trans g1);clear g1 KP t0 t1 c0 c1 c2 c3 c4;exact c_48
   have hltz:=h_198;have HALL2:RowKit.Hid (∀ j (h:j<l.length),aX l l[j]):=fun j h=>M.out j h b_53
   have HASC:=uZ (aOh HALL1.out);clear M;go_wp2;clear t0 t1;go_loopg [8] l.length (fun gg s wr=>∃ k:Nat,k≤l.length∧l.length-k≤gg∧s=.int .i64 k∧Aside (aA (w.alloc (.cells [.slice B rs.length d,.slice A l.length c].toArray 43)) wr)∧Aside (∀ j (h:j<l.length),j<k→sortI l[j].kids=bH l l[j].id))
   case atStart=>exact⟨0,by omega,by omega,rfl,(show Aside _ from BW.out),(show Aside _ from fun j h h2=>absurd h2 (Nat.not_lt_zero _))⟩
   case round =>
    obtain⟨k,hk,hgk,rfl,BW,M⟩:=hrel;have GW:=h_217;have t0:=yQ BW.out 0 _ rfl;have t1:=h_234;by_cases hlt:k<l.length
    ·have hltz:(k:Int)<(l.length:Int):=by omega
     have h0z:=h_216;obtain⟨b,off,rfl,hb,hcell⟩:=HR.out b_53;obtain⟨kv,hkv,hcl⟩:=hcell k hlt;obtain⟨c0,c1,c2,c3,c4,c5⟩:=hcl wr GW.out;have kK:=fun W hW=>HK.out l[k].kids l[k].id kv W hW hkv (HFK.out k hlt)
     simp only [aMe HASC.out] at kK;have hPK:∃ PK,RowKit.Hid ((sortI l[k].kids=bH l l[k].id)=PK):=⟨_,rfl⟩
     obtain⟨PK,HPK⟩:=hPK;have HN:RowKit.Hid (¬ PK→¬ PR):=by rw[← HPK.out];exact fun h h2=>h ((HD.out.1 h2).2.2.2.1 k hlt)
     have HY:RowKit.Hid (PK→∀ j (h:j<l.length),j<k+1→sortI l[j].kids=bH l l[j].id):=by
      exact c_105
     rw[HPK.out] at kK;generalize l[k]=y at c0 c1 c2 c3 c4 c5 kK hkv;obtain⟨yi,yp,yl,yt,ym,yk⟩:=y;dsimp only at c0 c1 c2 c3 c4 c5 kK hkv;obtain⟨Ak,ck,rfl,-,-,-⟩:=hkv.open_;have KK:=uZ kK;clear kK M hcell hcl hkv c1 c2 c3 c4;go_wp2_with fail;refine bN 14 (by kernel_rfl) (by kernel_rfl) ?_;simp only [List.take_succ_cons,List.take_zero,List.drop_succ_cons,List.drop_zero]
     iterate 14 still_step
     refine wpStill_nil ?_;go_wp2_with fail;refine(KK.out _ GW.out.drew).mono ?_;rintro e w1 ⟨q,rfl,hn,g1⟩;have HG:=uZ (GW.out.drew.trans g1);have BG:=uZ (BW.out.drew.trans g1);have HNN:=uZ hn;clear g1 KK t0 t1 c0 c5 hn;dsimp only;cases q
     ·have Hn:=uZ (HN.out (fun h=>by have:=HNN.out.2 h;cases this))
      go_wp2;go_ret2;exact eG.no _ 10 b_52 Hn.out HG.out
     ·have Hy:=uZ (HY.out (HNN.out.1 rfl))
      exact c_83
    have hltz:=h_198;have HALL3:RowKit.Hid (∀ j (h:j<l.length),sortI l[j].kids=bH l l[j].id):=fun j h=>M.out j h b_53
    have kR:=fun W hW=>HK0.out 0 W hW
    simp only [aMe HASC.out] at kR;have KR:=uZ kR;clear M kR;go_wp2_with fail;refine(KR.out _ GW.out).mono ?_;rintro e w1 ⟨q,rfl,hn,g1⟩;have HG:=uZ (GW.out.trans g1);have BG:=uZ (BW.out.trans g1);have HNN:=uZ hn;clear g1 KR t0 t1 hn;dsimp only;cases q
    ·have Hn:RowKit.Hid (¬ PR):=fun h=>by have:=HNN.out.2 (HD.out.1 h).2.2.2.2.1;cases this
     go_wp2;go_ret2;exact eG.no _ 10 b_52 Hn.out HG.out
    have HRT:=uZ (HNN.out.1 rfl);go_wp2;go_loopg [9] l.length (fun gg s wr=>∃ k:Nat,k≤l.length∧l.length-k≤gg∧s=.int .i64 k∧Aside (aA (w.alloc (.cells [.slice B rs.length d,.slice A l.length c].toArray 43)) wr)∧Aside (∀ j (h:j<l.length),j<k→eD l l[j]))
    case atStart=>exact⟨0,by omega,by omega,rfl,(show Aside _ from BG.out),(show Aside _ from fun j h h2=>absurd h2 (Nat.not_lt_zero _))⟩
    case round =>
     obtain⟨k,hk,hgk,rfl,BW,M⟩:=hrel;have GW:=h_217;have t0:=yQ BW.out 0 _ rfl;have t1:=h_234;by_cases hlt:k<l.length
     ·have hltz:(k:Int)<(l.length:Int):=by omega
      have h0z:=h_216;obtain⟨b,off,rfl,hb,hcell⟩:=HR.out b_53;obtain⟨kv,hkv,hcl⟩:=hcell k hlt;obtain⟨c0,c1,c2,c3,c4,c5⟩:=hcl wr GW.out;have hmem:l[k]∈l:=List.getElem_mem hlt;have kW:=fun W hW=>HW.out l[k] W hW hmem (fun c hc=>dN HASC.out hc) (aOg HALL1.out) (zS HALL2.out)
      have hpd:=(aLd HASC.out (zS HALL2.out) hmem).1;have hPK:∃ PK,RowKit.Hid (eD l l[k]=PK):=⟨_,rfl⟩
      obtain⟨PK,HPK⟩:=hPK;have HN:RowKit.Hid (¬ PK→¬ PR):=by rw[← HPK.out];exact fun h h2=>h ((HD.out.1 h2).2.2.2.2.2 k hlt)
      have HY:RowKit.Hid (PK→∀ j (h:j<l.length),j<k+1→eD l l[j]):=by
       exact c_105
      rw[HPK.out] at hpd;generalize wR l l[k]=PW at kW hpd;generalize l[k]=y at c0 c1 c2 c3 c4 c5 kW hkv;obtain⟨yi,yp,yl,yt,ym,yk⟩:=y;dsimp only at c0 c1 c2 c3 c4 c5 kW hkv;have KW:=uZ kW;have HPD:=uZ hpd;clear kW M hcell hcl hkv c1 c2 c3 c4 c5 hpd hmem;go_wp2_with fail;refine bN 8 (by kernel_rfl) (by kernel_rfl) ?_;simp only [List.take_succ_cons,List.take_zero,List.drop_succ_cons,List.drop_zero]
      iterate 8 still_step
      refine wpStill_nil ?_;go_wp2_with fail;refine(KW.out _ GW.out.drew).mono ?_;rintro e w1 ⟨v1,rfl,s1,g1⟩;have HG:=uZ (GW.out.drew.trans g1);have BG:=uZ (BW.out.drew.trans g1);obtain⟨A1,c1,rfl,hl1,hc1,-⟩:=s1.open_;unfold maxLen at hc1;clear g1 KW t0 t1 c0 s1;dsimp only;by_cases h0:PW.length=0
      ·have h0':((PW.length:Int) == 0)=true:=by simpa using h0
       have Hn:=uZ (HN.out (fun h=>(HPD.out.1 h).1 h0));clear h0;go_wp2;go_ret2;exact eG.no _ 17 b_52 Hn.out HG.out
      have h0':((PW.length:Int) == 0)=false:=by simpa using h0
      by_cases h12:12<PW.length
      ·have h12':(12:Int)<(PW.length:Int):=by omega
       have Hn:=uZ (HN.out (fun h=>by have:=(HPD.out.1 h).2;omega));clear h0;go_wp2;go_ret2;exact eG.no _ 15 b_52 Hn.out HG.out
      have h12':¬ (12:Int)<(PW.length:Int):=by omega
      have Hy:=uZ (HY.out (HPD.out.2 ⟨h0,by omega⟩));clear h0;exact c_83
     have hltz:=h_198;have Hy:=uZ (HD.out.2 ⟨by omega,HALL1.out,HALL2.out,HALL3.out,HRT.out,fun j h=>M.out j h b_53⟩);clear M t0;go_wp2;go_ret2;exact eG.yes _ Hy.out GW.out
theorem dX (rs:List Int) (l:List Br) (rv bv:Value) (w:World) (hr:SlI w rv rs) (hv:bQ w bv l) (hf:cF l) (hrl:rs.length≤1000000) (hm:∀ i (h:i<l.length),l[i].mark.size≤9223372036854775807) :
  Calls Tryz.prog 100 #[.agg #[rv,bv]] w (bBt (aM ⟨rs,l⟩) w):=by
 have K:=uZ (fun W (hW:aA w W)=>aHc rs l rv bv W (hr.mono hW) (hv.mono hW) hf hrl hm);clear hr hv hf hrl hm;go_enter Tryz.func100,Tryz.ntmps100;exact c_49
end Go.Proofs.YtdochkemaiokfaaGreat


namespace Go.Proofs.YtdochkemaiokfaaGreat
open Go.RowKit Go.Maps
def aBx (ks:List Int):DataW Unit:=setOf (.lit (.bool true)) (ks.map fun n=>.int .i64 n)
theorem aDi (ks:List Int) (n:Int):has (aBx ks) (.int .i64 n)=true↔n∈ks:=by
 unfold aBx
 rw[has_setOf _ _ _ (fun x hx=>by
  obtain⟨m,_,rfl⟩:=List.mem_map.1 hx
  trivial),List.any_eq_true]
 constructor
 ·rintro ⟨x,hx,hs⟩
  obtain⟨m,hm,rfl⟩:=List.mem_map.1 hx;simp[Lit.sameKey] at hs;exact hs▸hm
 ·intro h
  exact⟨_,List.mem_map.2 ⟨n,h,rfl⟩,by simp[Lit.sameKey]⟩
def aEj (D0:DataW Unit) (left:Lit→Bool) (ks:List Int):Prop:=ks.Nodup∧∀ x,x∈ks↔(has D0 (.int .i64 x)=true∧left (.int .i64 x)=false)
theorem aEj.start (D0:DataW Unit):aEj D0 (has D0) []:=⟨List.nodup_nil,fun x=>by cases has D0 (.int .i64 x)<;>simp⟩
theorem aEj.step {D0:DataW Unit} {left:Lit→Bool} {ks:List Int} (h:aEj D0 left ks) {x:Int} {y:DataW Unit} (hlk:left (.int .i64 x)=true) (hat:∀ zd,D0.atKey (.int .i64 x) zd=y):aEj D0 (fun z=>left z && !z.sameKey (.int .i64 x)) (ks++[x]):=by
 have hhas:has D0 (.int .i64 x)=true:=has_true_of_atKey hat
 have hnew:x∉ks:=fun hx=>by have:=((h.2 x).1 hx).2;rw[hlk] at this;cases this
 refine⟨List.nodup_append.2 ⟨h.1,by simp,fun a ha b hb=>by simp at hb;subst hb;exact fun e=>hnew (e▸ha)⟩,fun y=>?_⟩;by_cases hy:y=x
 ·subst hy;simp[hhas,Lit.sameKey]
 ·simp[h.2 y,hy,Lit.sameKey]
theorem aEj.done {ks0:List Int} {left:Lit→Bool} {ks:List Int} (h:aEj (aBx ks0) left ks) (hl:∀ kl,left kl=false):ks.Nodup∧∀ n,n∈ks↔n∈ks0 :=
 ⟨h.1,fun n=>by rw[h.2 n,aDi];simp[hl]⟩
theorem aGs {P:Program} {k:TypeId} {R:Value→Option (DataW Unit × List MemPlace)} {w:World} {b n:Nat} {D:DataW Unit} {base:Nat} {e:TypeId} {size:Nat} {v:Value} {m:Nat} {xs:List Value}
  (h:w.ownsRow base e size v m xs) (hm:w.ownsMap P k R b n D):some b≠v.ownBlock:=by
 obtain⟨es,clock,hit,_⟩:=hm;rcases h.2 with ⟨rfl,_⟩|⟨g,cap,cur,rfl,_,hb,_⟩
 ·simp[Value.ownBlock]
 ·intro e1
  have:b=g:=by simpa [Value.ownBlock] using e1
  subst this;rw[hit] at hb;cases hb
theorem aDj {w0 w w':World} {b:Nat} (h:aA w0 w) (g:w.grownBy w' (some b)) (hb:w0.heap.size≤b):aA w0 w':=Below.grown h g h.size (fun k hk=>by cases hk;exact hb)
end Go.Proofs.YtdochkemaiokfaaGreat

namespace Go.Proofs.YtdochkemaiokfaaGreat
open Go.RowKit
theorem aRm {l:List Br} {id:Int} {b:Br} (h:aE l id=some b):b∈l∧b.id=id:=by
 refine⟨List.mem_of_find?_eq_some h,?_⟩;have:=List.find?_some h;simpa using this
def Way (l:List Br) (rest:List Int) (z:Int):Prop:=(rest=[]∧z=0)∨∃ y n,y∈l∧z=y.id∧rest=fP l n y∧(dJ l n y).isSome=true
theorem Way.step {l:List Br} (hP:∀ i (h:i<l.length),aX l l[i]) {y:Br} {n:Nat} (hy:y∈l) (hd:(dJ l n y).isSome=true):∃ rest,fP l n y=y.id::rest∧Way l rest y.parent:=by
 by_cases h0:y.parent=0
 ·exact⟨[],jE l n y h0,.inl ⟨rfl,h0⟩⟩
 ·cases n with
  | zero=>rw[nG l y h0] at hd;cases hd
  | succ n =>
   obtain⟨j,hj,rfl⟩:=List.mem_iff_getElem.1 hy;have:=hP j hj;unfold aX at this;rw[if_neg h0] at this;obtain⟨p,hp,_⟩:=this;obtain⟨hpm,hpi⟩:=aRm hp;refine⟨fP l n p,mQ l n _ p h0 hp,.inr ⟨p,n,hpm,hpi.symm,rfl,?_⟩⟩;rw[aDp l n _ p h0 hp] at hd;simpa using hd
end Go.Proofs.YtdochkemaiokfaaGreat
namespace Go.Proofs.YtdochkemaiokfaaGreat
open Go.RowKit Go.Shelf
attribute [local go_sem] Oper.semAt_some
theorem aZe {W:World} {k:Nat} {v:Value} {cs:List Value} {p:Addr} (u:Value) (h:Rd W k v cs) (hp:v.ownBlock≠some p.block):Rd (W.setCell p u) k v cs:=by
 obtain⟨A,n,c,rfl,hl,hn,hc,h0⟩:=h;refine⟨A,n,c,rfl,hl,hn,hc,fun hpos=>?_⟩;obtain⟨b,off,rfl,hb,hcell⟩:=h0 hpos;refine⟨b,off,rfl,by simpa using hb,fun j x hx=>?_⟩;rw[uV _ _ _ _ (fun e=>hp (by subst e;rfl))];exact hcell j x hx
end Go.Proofs.YtdochkemaiokfaaGreat
namespace Go.Proofs.YtdochkemaiokfaaGreat
open Go.RowKit
def yK (t:Tr) (id:Int) (top:Bool) (w:World) (e:Ending) (w':World):Prop:=∃ n:Int,e=.returned (.int .i64 n)∧(¬ aM t→n=1)∧(aM t→n=if ((aE t.brs id).isSome || (top && (id == 0))) then 0 else 7)∧aA w w'
theorem aPx (rs:List Int) (l:List Br) (id:Int) (top:Bool) (rv bv:Value) (w:World) (hr:SlI w rv rs) (hv:bQ w bv l) (hf:cF l) (hrl:rs.length≤1000000) (hm:∀ i (h:i<l.length),l[i].mark.size≤9223372036854775807) :
  Calls Tryz.prog 207 #[.agg #[rv,bv],.int .i64 id,.bool top] w (yK ⟨rs,l⟩ id top w):=by
 have HR:=uZ (fun W (hW:aA w W)=>dX rs l rv bv W (hr.mono hW) (hv.mono hW) hf hrl hm);have kI:=fun W (hW:aA w W)=>aR l id rv bv W (hv.mono hW)
 have HD:RowKit.Hid (∀ n w',(¬ aM ⟨rs,l⟩→n=1)→(aM ⟨rs,l⟩→n=if ((aE l id).isSome || (top && (id == 0))) then 0 else 7)→aA w w'→yK ⟨rs,l⟩ id top w (.returned (.int .i64 n)) w'):=fun n w' h1 h2 h3=>⟨n,rfl,h1,h2,h3⟩
 generalize yK ⟨rs,l⟩ id top w=KE at HD ⊢;generalize aM ⟨rs,l⟩=PR at HR HD;unfold aY at kI;generalize hO:(aE l id).isSome=os at kI HD;generalize (aE l id).getD br0=y at kI;obtain⟨yi,yp,yl,yt,ym,yk⟩:=y;dsimp only at kI;have KI:=uZ kI;obtain⟨A,c,rfl,-,-,-⟩:=hv.open_;obtain⟨B,d,rfl,-,-,-⟩:=hr.open_;clear hr hv hf hrl hm kI hO;cases hb2:(id == 0)<;>cases top<;>cases os
 all_goals
  rw[hb2] at HD;go_enter Tryz.func207,Tryz.ntmps207;go_wp2_with fail;refine(HR.out _ ((uX w).alloc _)).mono ?_;rintro e w1 ⟨q,rfl,hq,g1⟩;have t0:=yQ g1 0 _ rfl;have t1:=yQ g1 1 _ rfl;have HG:=uZ (((uX w).alloc _).trans g1);have HQ:=uZ hq;clear g1 hq;dsimp only;cases q
  ·have Hn:RowKit.Hid (¬ PR):=fun h=>by have:=HQ.out.2 h;cases this
   go_wp2;exact HD.out _ _ (fun _=>rfl) (fun h=>absurd h Hn.out) HG.out
  ·have Hy:=uZ (HQ.out.1 rfl)
   go_wp2_with fail;refine(KI.out _ HG.out).mono ?_;rintro e w2 ⟨rfl,g2⟩;have HG2:=uZ (HG.out.trans g2);clear g2 t0 t1;dsimp only;go_wp2;exact HD.out _ _ (fun h=>absurd Hy.out h) (fun _=>rfl) (HG2.out.alloc _)
theorem c_69 {p:Prop} (h:p:=by
 go_wp2_with (at_builtin;refine Lib.wpList_append_run _ rfl _ _ _ _ rfl _ _ rfl rfl _ _ (hrun _) ?_)
 go_ret;exact⟨_,rfl,S1.out,GB.out.trans g1,fun k hk=>Nat.le_trans GB.out.size (L1.out k hk).1⟩
):p:=h
theorem aBc (l:List Int) (v:Value) (w W:World) (hv:SlI w v l) (hG:aA w W) (hl:l.length≤1000000):∃ A n c w',(∀ ty,(Builtin.append_ #[38,38] ty #[.slice (some ⟨W.heap.size,0,none⟩) 0 0,v]).run Tryz.prog (W.alloc (.cells #[] 3))=.ok (.slice A n c) w')∧SlI w' (.slice A n c) l∧aA W w'∧bBi W.heap.size w' (.slice A n c):=by
 obtain⟨i0,hi,hz0,hz1,hz2⟩:=info_parts lJ;have hu:Rd (W.alloc (.cells #[] 3)) 1 v (l.flatMap eE):=Rd.mono hv (hG.alloc _);obtain⟨A,n,c,w',h1,h2,h3,h4⟩:=aIs (P:=Tryz.prog) (W.alloc (.cells #[] 3)) 38 0 3 i0 (.int .i64 0) 1 8 Tryz.underlying38 hi hz0 hz1 hz2 b_53 W.heap.size v l.length (l.flatMap eE) hu (by rw[aL eE 1 (fun _=>rfl)]) b_47 b_53 W.heap.size (Nat.le_refl _) b_54;exact⟨A,n,c,w',fun ty=>h1,h2,((uX W).alloc _).trans h3,h4⟩
def oM (r:List Int) (w:World) (e:Ending) (w':World):Prop:=∃ v,e=.returned v∧SlI w' v r∧aA w w'∧tQ w.heap.size v
theorem aIk {rs:List Int} {l:List Br} {id:Int} (h0:id≠0) {k:Nat} (hk:k<l.length) (hb:∀ j (hj:j<l.length),j<k→¬ l[j].id=id) (he:l[k].id=id):aB ⟨rs,l⟩ id=l[k].kids:=by
 unfold aB;rw[if_neg h0];show(match aE l id with|none=>[]|some b=>b.kids)=_;rw[vT hk hb he]
theorem aDu {rs:List Int} {l:List Br} {id:Int} (h0:id≠0) (hb:∀ j (hj:j<l.length),¬ l[j].id=id):aB ⟨rs,l⟩ id=[]:=by
 unfold aB;rw[if_neg h0];show(match aE l id with|none=>[]|some b=>b.kids)=_;rw[tM hb]
theorem bJ (rs:List Int) (l:List Br) (id:Int) (rv bv:Value) (w:World) (hr:SlI w rv rs) (hv:bQ w bv l) (hf:cF l) (hrl:rs.length≤1000000):Calls Tryz.prog 149 #[.agg #[rv,bv],.int .i64 id] w (oM (aB ⟨rs,l⟩ id) w):=by
 have HRS:=uZ hr;obtain⟨A,c,rfl,hlc,hc,hrr⟩:=hv.open_;obtain⟨B,d,rfl,hld,hd,-⟩:=hr.open_;unfold maxLen at hc hd;have HR:=uZ hrr;have GB:=uZ ((uX w).alloc (.cells #[.slice B rs.length d,.slice A l.length c] 43));by_cases h0:id=0
 ·subst h0
  have e:aB ⟨rs,l⟩ 0=rs:=by unfold aB;rw[if_pos rfl]
  rw[e];obtain⟨A1,n1,c1,w1,hrun,s1,g1,l1⟩:=aBc rs _ w _ HRS.out GB.out hrl;rw[World.size_alloc] at hrun;have S1:=uZ s1;have L1:=uZ l1;clear hr hv hrr e s1 l1;go_enter Tryz.func149,Tryz.ntmps149;exact c_69
 ·have h0':(id == 0)=false:=by simpa using h0
  have HF1:=uZ (fun k=>@aIk rs l id h0 k);have HF2:=uZ (@aDu rs l id h0);have HFB:=uZ hf;generalize aB ⟨rs,l⟩ id=O at HF1 HF2 ⊢;clear hr hv hrr hf h0;go_enter Tryz.func149,Tryz.ntmps149;go_wp2
  go_loop [5] (fun i=>∃ k:Nat,k≤l.length∧i=.int .i64 k∧Aside (∀ j (hj:j<l.length),j<k→¬ l[j].id=id)) (fun i=>l.length-(intOf i).toNat)
  case atStart=>exact⟨0,by omega,rfl,(show Aside _ from fun j h h2=>absurd h2 (Nat.not_lt_zero _))⟩
  case round =>
   obtain⟨k,hk,rfl,M⟩:=hrel;by_cases hlt:k<l.length
   ·have hltz:(k:Int)<(l.length:Int):=by omega
    have h0z:=h_216;obtain⟨b,off,rfl,hb,hcell⟩:=HR.out b_53;obtain⟨kv,hkv,hcl⟩:=hcell k hlt;obtain⟨c0,-,-,-,-,c5⟩:=hcl _ GB.out;have HS:=uZ (HF1.out k hlt M.out);have HN:=h_73;have hkl:=HFB.out.2 k hlt;obtain⟨A1,n1,c1,w1,hrun,s1,g1,l1⟩:=aBc l[k].kids _ w _ hkv GB.out hkl;rw[World.size_alloc] at hrun;have c5':=fun t=>uQ ((uX _).alloc (.cells #[] t)) c5
    have S1:=uZ s1;have L1:=uZ l1;have tr:=fun t=>uQ ((uX (w.alloc (.cells [.slice B rs.length d,.slice (some ⟨b,off,none⟩) l.length c].toArray 43))).alloc (.cells #[] t)) (yQ (uX (w.alloc (.cells [.slice B rs.length d,.slice (some ⟨b,off,none⟩) l.length c].toArray 43))) 1 _ rfl)
    obtain⟨Ak,ck,rfl,-,-,-⟩:=hkv.open_;generalize l[k]=y at c0 c5 c5' HS HN S1 hrun;obtain⟨yi,yp,yl,yt,ym,yk⟩:=y;dsimp only at c0 c5 c5' HS HN S1 hrun;clear hcell hcl s1 l1;by_cases he:yi=id
    ·have hO:=HS.out he
     have he':(yi == id)=true:=by simpa using he
     subst hO;clear he HS HN M HF1 HF2;exact c_69
    ·have he':(yi == id)=false:=by simpa using he
     exact c_85
   ·have hltz:¬ (k:Int)<(l.length:Int):=by omega
    have hO:=HF2.out (fun j hj=>M.out j hj b_53);subst hO;clear HF1 HF2 M;go_wp2;go_ret;exact⟨_,rfl,SlI.nil _,GB.out,tQ.nil _ _ _⟩
end Go.Proofs.YtdochkemaiokfaaGreat
