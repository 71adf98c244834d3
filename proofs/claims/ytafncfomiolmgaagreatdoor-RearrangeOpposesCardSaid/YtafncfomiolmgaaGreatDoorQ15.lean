/- Lemmas on what the functions of the program and of the library compute: RE4, PlainU, RE5, CompI, SetI, T11, Inh, RE6, Bw1. The conditions stand at each. -/
import Derived.Test.YtafncfomiolmgaaGreatDoorQ8
import Derived.Test.YtafncfomiolmgaaGreatDoorQ5
import Derived.Test.YtafncfomiolmgaaGreatDoorQ14
import Derived.Test.YtafncfomiolmgaaGreatDoorQ13
import Derived.Test.YtafncfomiolmgaaGreatDoorQ4
import Derived.Test.YtafncfomiolmgaaGreatDoorQ2
import Derived.Test.YtafncfomiolmgaaGreatDoorQ1
import Derived.Maps.RangeWalk
import Derived.Maps.OwnSet
import Derived.RangeFuncBox
import Derived.RangeFuncLeaves
import Derived.OwnWalkIn
import Derived.TacticsInMore
import Derived.LoopNIn
import Derived.LoopIn
import Derived.Test.YtafncfomiolmgaaGreatDoorProg
import Derived.Test.YtafncfomiolmgaaGreatDoorQ3
import Derived.Sort.OwnSorted
import Derived.Maps.AppendAt
import Derived.RangeFuncCalls
import Derived.Deep.RegionHeld3
import Derived.Test.YtafncfomiolmgaaGreatDoorQ9
namespace Go.Proofs.YtafncfomiolmgaaGreatDoor
open Go.RowKit
theorem own_lit1 {W:World} {base:Nat} {e:TypeId} {x:Value} (H:Nat) (hH:W.heap.size=H) (hb:base≤H):(W.alloc (.cells #[x] e)).ownsRow base e 1 (.slice (some ⟨H,0,none⟩) 1 1) 1 [x]:=by
 subst hH
 exact⟨by simp,.inr ⟨W.heap.size,1,#[x],rfl,hb,heap_alloc_new W _,Nat.le_refl _,b_34,rfl,rfl⟩⟩
theorem path_own {w:World} {base:Nat} {v:Value} {x:Int} {out:List Int} (h:w.ownsRow base 3 1 v (1+out.length) ([.int .i64 x]++out.flatMap oneI)):∃ A c,v=.slice A (out.length+1) c∧SlI w (.slice A (out.length+1) c) (x::out):=by
 have e:([.int .i64 x]++out.flatMap oneI)=(x::out).flatMap oneI:=by simp[oneI]
 rw[e,Nat.add_comm] at h
 have hs:SlI w v (x::out):=Rd.of_own h
 obtain⟨A,c,hv,-⟩:=hs.open_
 rw[List.length_cons] at hv
 subst hv
 exact⟨A,c,rfl,hs⟩
def idOf:Option Br→Int
 | none=>0
 | some c=>c.id
def goOn (l:List Br) (f:Nat) (out:List Int):Option Br→List Int
 | none=>out
 | some c=>match upW l f c with
  | none=>[]
  | some ids=>ids.reverse++out
theorem goOn_zero (l:List Br) (out:List Int) (c:Br):goOn l 0 out (some c)=[]:=rfl
theorem goOn_top (l:List Br) (f:Nat) (out:List Int) (c:Br) (h:c.parent=0):goOn l (f+1) out (some c)=goOn l f (c.id::out) none:=by simp[goOn,upW,h]
theorem goOn_up (l:List Br) (f:Nat) (out:List Int) (c p:Br) (h:c.parent≠0) (hp:brFind l c.parent=some p):goOn l (f+1) out (some c)=goOn l f (c.id::out) (some p):=by
 simp only [goOn,upW,if_neg h,hp]
 cases upW l f p<;>simp
set_option maxHeartbeats 8000000 in
set_option maxRecDepth 100000 in
theorem refPath19 (l:List Br) (b:Br) (rv bv:Value) (w:World) (hv:SlBr w bv l) (hb:b∈l) (hf:∀ c∈l,brFind l c.id=some c) (hz:∀ c∈l,c.id≠0) (hu:upOk l) (hl:l.length≤1000000) :
  Calls Tryz.prog 142 #[.agg #[rv,bv],.int .i64 b.id] w (RetI (pathW l b) w):=by
 have HF:=uZ (fun n W (hW:Grew w W)=>refFind19 l n rv bv W (hv.mono hW))
 have HB:=uZ hf
 have HZ:=uZ hz
 have HU:=uZ hu
 have hR:pathW l b=goOn l l.length [] (some b):=by
  show _=match upW l l.length b with
   | none=>[]
   | some ids=>ids.reverse++[]
  unfold pathW
  cases upW l l.length b<;>simp
 rw[hR]
 generalize hR0:goOn l l.length [] (some b)=R
 have HR:=uZ hR0
 have HM:=uZ hb
 obtain⟨A,c,rfl,hlc,hc,-⟩:=hv.open_
 unfold maxLen at hc
 obtain⟨k0,hk0,hx0,hx1,hx2⟩:=info_parts cinfoI
 generalize hid:b.id=bid
 have HID:=uZ hid
 clear hv hb hf hz hu hR hR0 hid
 go_enter Tryz.func142,Tryz.ntmps142
 go_wp2
 go_loopg [1,5] (l.length+1) (fun gg s1 s5 wr=>∃(m:Nat) (cur:Option Br) (out:List Int),m≤l.length∧l.length+1-m≤gg∧out.length=m∧s1=.int .i64 (idOf cur)∧Aside (SlI wr s5 out)∧Aside (Grew (w.alloc (.cells [rv,.slice A l.length c].toArray 35)) wr)∧Aside (∀ c,cur=some c→c∈l)∧Aside (goOn l (l.length-m) out cur=R))
 case atStart=>exact⟨0,some b,[],by omega,by omega,rfl,by rw[← HID.out];rfl,(show Aside _ from SlI.nil _),(show Aside _ from uX _),(show Aside _ from fun c h=>by cases h;exact HM.out),(show Aside _ from HR.out)⟩
 case round =>
  obtain⟨m,cur,out,hm,hgm,rfl,rfl,OW,BW,HC,HG⟩:=hrel
  have GW:=uZ (((uX w).alloc _).trans BW.out)
  cases cur with
  | none =>
   have hRR:out=R:=HG.out
   subst hRR
   clear HG HC
   unfold idOf
   go_wp2
   go_ret
   exact⟨_,rfl,OW.out,GW.out⟩
  | some y =>
  have hmem:=HC.out y rfl
  have hne:(y.id != 0)=true:=by simpa using HZ.out y hmem
  have kF:=fun W (hW:Grew w W)=>HF.out y.id W hW
  simp only [HB.out y hmem] at kF
  have KF:=uZ kF
  obtain⟨A5,c5,rfl,hl5,hc5,-⟩:=OW.out.open_
  unfold maxLen at hc5
  have HUP:=uZ (HU.out y hmem)
  have HT:=uZ (fun f=>goOn_top l f out y)
  have HV:=uZ (fun f p=>goOn_up l f out y p)
  have t0:=yQ BW.out 0 _ rfl
  have t1:=yQ BW.out 1 _ rfl
  unfold idOf
  obtain⟨yi,yp,yl,yt,ym,yk⟩:=y
  dsimp only at hne KF HUP HT HV ⊢
  have hfl:(out.flatMap oneI).length=out.length*1:=flatMap_len oneI 1 (fun _=>rfl) out
  have HFL:=uZ hfl
  clear kF hfl hmem
  by_cases hover:l.length<out.length+1
  ·have hoverz:(l.length:Int)<(out.length:Int)+1:=by omega
   have hRR:R=[]:=by
    have h:=HG.out
    rw[show l.length-out.length=0 by omega,goOn_zero] at h
    exact h.symm
   subst hRR
   clear HG HC HT HV HUP hover
   go_wp2_with fail
   refine(KF.out _ GW.out).mono ?_
   rintro e w2 ⟨rfl,g2⟩
   have HG2:=uZ ((BW.out.trans g2).alloc (.cells #[.int .i64 yi,.int .i64 yp,.int .i64 yl,.string yt,.string ym] 51))
   have G2:=uZ ((GW.out.trans g2).alloc (.cells #[.int .i64 yi,.int .i64 yp,.int .i64 yl,.string yt,.string ym] 51))
   have OW2:=uZ (OW.out.mono (g2.alloc (.cells #[.int .i64 yi,.int .i64 yp,.int .i64 yl,.string yt,.string ym] 51)))
   have u1:=yQ (uX (w2.alloc (.cells #[.int .i64 yi,.int .i64 yp,.int .i64 yl,.string yt,.string ym] 51))) 1 _ rfl
   have HU1:=uZ u1
   clear g2 t0 t1 u1 KF
   dsimp only
   go_wp2_with (at_builtin;refine appR rfl _ _ 32 rfl (w2.alloc (.cells #[.int .i64 yi,.int .i64 yp,.int .i64 yl,.string yt,.string ym] 51)) 3 k0 (.int .i64 0) 1 8 Tryz.underlying32 hk0 hx0 hx1 hx2 rfl b_37 _ 1 [.int .i64 yi] b_39 _ (own_lit1 _ b_38 b_38) ((uX _).alloc _) _ out.length (out.flatMap oneI) b_39 (Rd.mono OW2.out ((uX _).alloc _)) HFL.out (one_cellsI _) b_34 b_37 ?_;intro v5 w5 o5 g5 _;obtain⟨A6,c6,rfl,ho5⟩:=path_own o5;have O5:=uZ ho5;have tt1:=yQ (HG2.out.trans g5) 1 _ rfl;have uu1:=uQ g5 HU1.out;have G5:=uZ (G2.out.trans g5);have BW5:=uZ (HG2.out.trans g5);clear o5 g5 ho5)
   go_ret
   exact⟨_,rfl,SlI.nil _,G5.out⟩
  have hoverz:¬ (l.length:Int)<(out.length:Int)+1:=by omega
  have hnx:∃ cur':Option Br,idOf cur'=yp∧(∀ c,cur'=some c→c∈l)∧goOn l (l.length-(out.length+1)) (yi::out) cur'=R:=by
   have h:=HG.out
   rw[show l.length-out.length=(l.length-(out.length+1))+1 by omega] at h
   by_cases hp:yp=0
   ·refine⟨none,by rw[hp];rfl,(fun c h=>by cases h),?_⟩
    rw[HT.out _ hp] at h
    exact h
   ·rcases HUP.out with h1|⟨q,hq⟩
    ·exact absurd h1 hp
    ·refine⟨some q,(find_in hq).2,(fun c h=>by cases h;exact(find_in hq).1),?_⟩
     rw[HV.out _ q hp hq] at h
     exact h
  obtain⟨cur',hc1,hc2,hc3⟩:=hnx
  have H1:=uZ hc1
  have H2:=uZ hc2
  have H3:=uZ hc3
  clear hc1 hc2 hc3 hover HG HC HT HV HUP
  go_wp2_with fail
  refine(KF.out _ GW.out).mono ?_
  rintro e w2 ⟨rfl,g2⟩
  have HG2:=uZ ((BW.out.trans g2).alloc (.cells #[.int .i64 yi,.int .i64 yp,.int .i64 yl,.string yt,.string ym] 51))
  have G2:=uZ ((GW.out.trans g2).alloc (.cells #[.int .i64 yi,.int .i64 yp,.int .i64 yl,.string yt,.string ym] 51))
  have OW2:=uZ (OW.out.mono (g2.alloc (.cells #[.int .i64 yi,.int .i64 yp,.int .i64 yl,.string yt,.string ym] 51)))
  have u1:=yQ (uX (w2.alloc (.cells #[.int .i64 yi,.int .i64 yp,.int .i64 yl,.string yt,.string ym] 51))) 1 _ rfl
  have HU1:=uZ u1
  clear g2 t0 t1 u1 KF
  dsimp only
  go_wp2_with (at_builtin;refine appR rfl _ _ 32 rfl (w2.alloc (.cells #[.int .i64 yi,.int .i64 yp,.int .i64 yl,.string yt,.string ym] 51)) 3 k0 (.int .i64 0) 1 8 Tryz.underlying32 hk0 hx0 hx1 hx2 rfl b_37 _ 1 [.int .i64 yi] b_39 _ (own_lit1 _ b_38 b_38) ((uX _).alloc _) _ out.length (out.flatMap oneI) b_39 (Rd.mono OW2.out ((uX _).alloc _)) HFL.out (one_cellsI _) b_34 b_37 ?_;intro v5 w5 o5 g5 _;obtain⟨A6,c6,rfl,ho5⟩:=path_own o5;have O5:=uZ ho5;have tt1:=yQ (HG2.out.trans g5) 1 _ rfl;have uu1:=uQ g5 HU1.out;have G5:=uZ (G2.out.trans g5);have BW5:=uZ (HG2.out.trans g5);clear o5 g5 ho5)
  go_roundg (l.length+1-(out.length+1))
  case measure=>omega
  case rel=>exact⟨out.length+1,cur',yi::out,by omega,by omega,by rw[List.length_cons],by rw[H1.out],(show Aside _ from O5.out),(show Aside _ from BW5.out),(show Aside _ from H2.out),(show Aside _ from H3.out)⟩
end Go.Proofs.YtafncfomiolmgaaGreatDoor
namespace Go.Proofs.YtafncfomiolmgaaGreatDoor
open Go.RowKit
theorem adj_pairwise {α:Type} {r:α→α→Prop} (tr:∀ a b c,r a b→r b c→r a c):∀(l:List α),(∀(i:Nat) (h:i+1<l.length),r (l[i]'b_37) (l[i+1]'h))→l.Pairwise r
 | [],_=>List.Pairwise.nil
 | [_],_=>by simp
 | a::b::m,h=>by
  have ih:=adj_pairwise (r:=r) tr (b::m) (fun i hi=>h (i+1) (by simpa using hi))
  have hab:r a b:=h 0 b_38
  refine List.Pairwise.cons ?_ ih
  intro x hx
  rcases List.mem_cons.1 hx with rfl|hx
  ·exact hab
  ·exact tr _ _ _ hab (List.rel_of_pairwise_cons ih hx)
end Go.Proofs.YtafncfomiolmgaaGreatDoor
namespace Go.Proofs.YtafncfomiolmgaaGreatDoor
open Go.RowKit
set_option maxRecDepth 100000 in
theorem c_47 {p:Prop} (h:p:=by
 have HNN:=uZ hn
 clear hn
 dsimp only
 by_cases hz:n=0
 case neg =>
  have hz':(n != 0)=true:=by simpa using hz
  have Hz:=uZ hz
  have Hn:=uZ (HN.out (fun h=>hz (HNN.out.2 h)))
  clear hz
  go_wp2
  go_ret2
  exact RetIff2.no _ n Hz.out Hn.out HG.out
 ·subst hz
  have Hy:=uZ (HY.out (HNN.out.1 rfl))
  go_wp2
  go_roundg (l.length-(k+1))
  case measure=>omega
  case rel=>exact⟨k+1,by omega,by omega,by go_num,(show Aside _ from BG.out),(show Aside _ from Hy.out)⟩):p:=h
set_option maxRecDepth 100000 in
theorem c_66 {p:Prop} (h:p:=by
 rw[← HPK.out]
 exact fun h j hj h2=>by
  by_cases e:j=k
  ·subst e;exact h
  ·exact M.out j hj b_37):p:=h
theorem alone_asc {l:List Br} (h:∀ i (hi:i<l.length),BrAlone l i hi):idsAsc l :=
 adj_pairwise (r:=fun(a b:Br)=>a.id<b.id) (fun(_ _ _:Br) h1 h2=>Int.lt_trans h1 h2) l (fun i hi=>by
  have:=(h (i+1) hi).2.2.1 b_37
  simpa using this)
theorem alone_pos {l:List Br} (h:∀ i (hi:i<l.length),BrAlone l i hi):∀ b∈l,b.id≠0:=fun b hb e=>by
 obtain⟨k,hk,rfl⟩:=List.mem_iff_getElem.1 hb
 have:=within_t.1 (h k hk).1
 omega
theorem placed_up {l:List Br} (h:∀ i (hi:i<l.length),BrPlaced l l[i]):upOk l:=fun b hb=>by
 obtain⟨k,hk,rfl⟩:=List.mem_iff_getElem.1 hb
 have:=h k hk
 unfold BrPlaced at this
 by_cases hp:l[k].parent=0
 ·exact .inl hp
 ·rw[if_neg hp] at this
  obtain⟨p,hpp,_⟩:=this
  exact .inr ⟨p,hpp⟩
set_option maxHeartbeats 16000000 in
set_option maxRecDepth 100000 in
theorem refCheck19 (rs:List Int) (l:List Br) (rv bv:Value) (w:World) (hr:SlI w rv rs) (hv:SlBr w bv l) (hf:FewBr l) (hrl:rs.length≤1000000) (hm:∀ i (h:i<l.length),l[i].mark.size≤9223372036854775807) :
  Calls Tryz.prog 96 #[.agg #[rv,bv]] w (RetIff2 (RightT ⟨rs,l⟩) w):=by
 have HO:=uZ (fun i (hi:i<l.length) W (hW:Grew w W)=>refOwn19 l i hi rv bv W (hv.mono hW) (hm i hi))
 have HP:=uZ (fun y W (hW:Grew w W)=>refPlace l y rv bv W (hv.mono hW))
 have HK:=uZ (fun ks p kv W (hW:Grew w W) (hk:SlI w kv ks) (h:ks.length≤1000000)=>refKids l ks p rv bv kv W (hv.mono hW) (hk.mono hW) hf.1 h)
 have HK0:=uZ (fun p W (hW:Grew w W)=>refKids l rs p rv bv rv W (hv.mono hW) (hr.mono hW) hf.1 hrl)
 have HW:=uZ (fun b W (hW:Grew w W) hb h1 h2 h3=>refPath19 l b rv bv W (hv.mono hW) hb h1 h2 h3 hf.1)
 have HD:RowKit.Hid (RightT ⟨rs,l⟩↔l.length≤256∧(∀ i (h:i<l.length),BrAlone l i h)∧(∀ i (h:i<l.length),BrPlaced l l[i])∧(∀ i (h:i<l.length),sortI l[i].kids=kidsOf l l[i].id)∧sortI rs=kidsOf l 0∧∀ i (h:i<l.length),BrDeep l l[i]):=Iff.rfl
 have HFK:=uZ hf.2
 generalize RightT ⟨rs,l⟩=PR at HD ⊢
 obtain⟨A,c,rfl,hlc,hc,hcell0⟩:=hv.open_
 obtain⟨B,d,rfl,-,-,-⟩:=hr.open_
 unfold maxLen at hc
 have HR:=uZ hcell0
 have hl6:=hf.1
 clear hcell0 hv hr hf hm hrl
 by_cases h256:256<l.length
 ·have h256':(256:Int)<(l.length:Int):=by omega
  have Hn:RowKit.Hid (¬ PR):=fun h=>by have:=(HD.out.1 h).1;omega
  clear h256
  go_enter Tryz.func96,Tryz.ntmps96
  go_wp2
  go_ret2
  exact RetIff2.no _ 8 b_36 Hn.out ((uX w).alloc _)
 have h256':¬ (256:Int)<(l.length:Int):=by omega
 go_enter Tryz.func96,Tryz.ntmps96
 go_wp2
 go_loopg [4] l.length (fun gg s wr=>∃ k:Nat,k≤l.length∧l.length-k≤gg∧s=.int .i64 k∧Aside (Grew (w.alloc (.cells [.slice B rs.length d,.slice A l.length c].toArray 35)) wr)∧Aside (∀ j (h:j<l.length),j<k→BrAlone l j h))
 case atStart=>exact⟨0,by omega,by omega,rfl,(show Aside _ from uX _),(show Aside _ from fun j h h2=>absurd h2 (Nat.not_lt_zero _))⟩
 case round =>
  obtain⟨k,hk,hgk,rfl,BW,M⟩:=hrel
  have GW:=uZ (((uX w).alloc _).trans BW.out)
  have t0:=yQ BW.out 0 _ rfl
  have t1:=yQ BW.out 1 _ rfl
  by_cases hlt:k<l.length
  ·have hltz:(k:Int)<(l.length:Int):=by omega
   have kO:=HO.out k hlt wr GW.out
   have hPK:∃ PK,RowKit.Hid (BrAlone l k hlt=PK):=⟨_,rfl⟩
   obtain⟨PK,HPK⟩:=hPK
   have HN:RowKit.Hid (¬ PK→¬ PR):=by rw[← HPK.out];exact fun h h2=>h ((HD.out.1 h2).2.1 k hlt)
   have HY:RowKit.Hid (PK→∀ j (h:j<l.length),j<k+1→BrAlone l j h):=by
    exact c_66
   rw[HPK.out] at kO
   have KO:=uZ kO
   clear kO M
   go_wp2_with fail
   refine KO.out.mono ?_
   rintro e w1 ⟨n,rfl,hn,g1⟩
   have HG:=uZ (GW.out.trans g1)
   have BG:=uZ (BW.out.trans g1)
   clear g1 KO t0 t1
   exact c_47
  have hltz:¬ (k:Int)<(l.length:Int):=by omega
  have HALL1:RowKit.Hid (∀ j (h:j<l.length),BrAlone l j h):=fun j h=>M.out j h b_37
  clear M
  go_wp2
  clear t0 t1
  go_loopg [6] l.length (fun gg s wr=>∃ k:Nat,k≤l.length∧l.length-k≤gg∧s=.int .i64 k∧Aside (Grew (w.alloc (.cells [.slice B rs.length d,.slice A l.length c].toArray 35)) wr)∧Aside (∀ j (h:j<l.length),j<k→BrPlaced l l[j]))
  case atStart=>exact⟨0,by omega,by omega,rfl,(show Aside _ from BW.out),(show Aside _ from fun j h h2=>absurd h2 (Nat.not_lt_zero _))⟩
  case round =>
   obtain⟨k,hk,hgk,rfl,BW,M⟩:=hrel
   have GW:=uZ (((uX w).alloc _).trans BW.out)
   have t0:=yQ BW.out 0 _ rfl
   have t1:=yQ BW.out 1 _ rfl
   by_cases hlt:k<l.length
   ·have hltz:(k:Int)<(l.length:Int):=by omega
    have h0z:(0:Int)≤(k:Int):=by omega
    obtain⟨b,off,rfl,hb,hcell⟩:=HR.out b_37
    obtain⟨kv,hkv,hcl⟩:=hcell k hlt
    obtain⟨c0,c1,c2,c3,c4,c5⟩:=hcl wr GW.out
    have kP:=fun W hW=>HP.out l[k] W hW
    have hPK:∃ PK,RowKit.Hid (BrPlaced l l[k]=PK):=⟨_,rfl⟩
    obtain⟨PK,HPK⟩:=hPK
    have HN:RowKit.Hid (¬ PK→¬ PR):=by rw[← HPK.out];exact fun h h2=>h ((HD.out.1 h2).2.2.1 k hlt)
    have HY:RowKit.Hid (PK→∀ j (h:j<l.length),j<k+1→BrPlaced l l[j]):=by
     exact c_66
    rw[HPK.out] at kP
    generalize l[k]=y at c0 c1 c2 c3 c4 c5 kP hkv
    obtain⟨yi,yp,yl,yt,ym,yk⟩:=y
    dsimp only at c0 c1 c2 c3 c4 c5 kP hkv
    have KP:=uZ kP
    clear kP M hcell hcl hkv c5
    go_wp2_with fail
    refine region_still_tail 7 (by kernel_rfl) (by kernel_rfl) ?_
    simp only [List.take_succ_cons,List.take_zero,List.drop_succ_cons,List.drop_zero]
    iterate 7 still_step
    refine wpStill_nil ?_
    go_wp2_with fail
    refine(KP.out _ GW.out.drew).mono ?_
    rintro e w1 ⟨n,rfl,hn,g1⟩
    have HG:=uZ (GW.out.drew.trans g1)
    have BG:=uZ (BW.out.drew.trans g1)
    clear g1 KP t0 t1 c0 c1 c2 c3 c4
    exact c_47
   have hltz:¬ (k:Int)<(l.length:Int):=by omega
   have HALL2:RowKit.Hid (∀ j (h:j<l.length),BrPlaced l l[j]):=fun j h=>M.out j h b_37
   have HASC:=uZ (alone_asc HALL1.out)
   clear M
   go_wp2
   clear t0 t1
   go_loopg [8] l.length (fun gg s wr=>∃ k:Nat,k≤l.length∧l.length-k≤gg∧s=.int .i64 k∧Aside (Grew (w.alloc (.cells [.slice B rs.length d,.slice A l.length c].toArray 35)) wr)∧Aside (∀ j (h:j<l.length),j<k→sortI l[j].kids=kidsOf l l[j].id))
   case atStart=>exact⟨0,by omega,by omega,rfl,(show Aside _ from BW.out),(show Aside _ from fun j h h2=>absurd h2 (Nat.not_lt_zero _))⟩
   case round =>
    obtain⟨k,hk,hgk,rfl,BW,M⟩:=hrel
    have GW:=uZ (((uX w).alloc _).trans BW.out)
    have t0:=yQ BW.out 0 _ rfl
    have t1:=yQ BW.out 1 _ rfl
    by_cases hlt:k<l.length
    ·have hltz:(k:Int)<(l.length:Int):=by omega
     have h0z:(0:Int)≤(k:Int):=by omega
     obtain⟨b,off,rfl,hb,hcell⟩:=HR.out b_37
     obtain⟨kv,hkv,hcl⟩:=hcell k hlt
     obtain⟨c0,c1,c2,c3,c4,c5⟩:=hcl wr GW.out
     have kK:=fun W hW=>HK.out l[k].kids l[k].id kv W hW hkv (HFK.out k hlt)
     simp only [kids_ok HASC.out] at kK
     have hPK:∃ PK,RowKit.Hid ((sortI l[k].kids=kidsOf l l[k].id)=PK):=⟨_,rfl⟩
     obtain⟨PK,HPK⟩:=hPK
     have HN:RowKit.Hid (¬ PK→¬ PR):=by rw[← HPK.out];exact fun h h2=>h ((HD.out.1 h2).2.2.2.1 k hlt)
     have HY:RowKit.Hid (PK→∀ j (h:j<l.length),j<k+1→sortI l[j].kids=kidsOf l l[j].id):=by
      exact c_66
     rw[HPK.out] at kK
     generalize l[k]=y at c0 c1 c2 c3 c4 c5 kK hkv
     obtain⟨yi,yp,yl,yt,ym,yk⟩:=y
     dsimp only at c0 c1 c2 c3 c4 c5 kK hkv
     obtain⟨Ak,ck,rfl,-,-,-⟩:=hkv.open_
     have KK:=uZ kK
     clear kK M hcell hcl hkv c1 c2 c3 c4
     go_wp2_with fail
     refine region_still_tail 14 (by kernel_rfl) (by kernel_rfl) ?_
     simp only [List.take_succ_cons,List.take_zero,List.drop_succ_cons,List.drop_zero]
     iterate 14 still_step
     refine wpStill_nil ?_
     go_wp2_with fail
     refine(KK.out _ GW.out.drew).mono ?_
     rintro e w1 ⟨q,rfl,hn,g1⟩
     have HG:=uZ (GW.out.drew.trans g1)
     have BG:=uZ (BW.out.drew.trans g1)
     have HNN:=uZ hn
     clear g1 KK t0 t1 c0 c5 hn
     dsimp only
     cases q
     ·have Hn:=uZ (HN.out (fun h=>by have:=HNN.out.2 h;cases this))
      go_wp2
      go_ret2
      exact RetIff2.no _ 10 b_36 Hn.out HG.out
     ·have Hy:=uZ (HY.out (HNN.out.1 rfl))
      go_wp2
      go_roundg (l.length-(k+1))
      case measure=>omega
      case rel=>exact⟨k+1,by omega,by omega,by go_num,(show Aside _ from BG.out),(show Aside _ from Hy.out)⟩
    have hltz:¬ (k:Int)<(l.length:Int):=by omega
    have HALL3:RowKit.Hid (∀ j (h:j<l.length),sortI l[j].kids=kidsOf l l[j].id):=fun j h=>M.out j h b_37
    have kR:=fun W hW=>HK0.out 0 W hW
    simp only [kids_ok HASC.out] at kR
    have KR:=uZ kR
    clear M kR
    go_wp2_with fail
    refine(KR.out _ GW.out).mono ?_
    rintro e w1 ⟨q,rfl,hn,g1⟩
    have HG:=uZ (GW.out.trans g1)
    have BG:=uZ (BW.out.trans g1)
    have HNN:=uZ hn
    clear g1 KR t0 t1 hn
    dsimp only
    cases q
    ·have Hn:RowKit.Hid (¬ PR):=fun h=>by have:=HNN.out.2 (HD.out.1 h).2.2.2.2.1;cases this
     go_wp2
     go_ret2
     exact RetIff2.no _ 10 b_36 Hn.out HG.out
    have HRT:=uZ (HNN.out.1 rfl)
    go_wp2
    go_loopg [9] l.length (fun gg s wr=>∃ k:Nat,k≤l.length∧l.length-k≤gg∧s=.int .i64 k∧Aside (Grew (w.alloc (.cells [.slice B rs.length d,.slice A l.length c].toArray 35)) wr)∧Aside (∀ j (h:j<l.length),j<k→BrDeep l l[j]))
    case atStart=>exact⟨0,by omega,by omega,rfl,(show Aside _ from BG.out),(show Aside _ from fun j h h2=>absurd h2 (Nat.not_lt_zero _))⟩
    case round =>
     obtain⟨k,hk,hgk,rfl,BW,M⟩:=hrel
     have GW:=uZ (((uX w).alloc _).trans BW.out)
     have t0:=yQ BW.out 0 _ rfl
     have t1:=yQ BW.out 1 _ rfl
     by_cases hlt:k<l.length
     ·have hltz:(k:Int)<(l.length:Int):=by omega
      have h0z:(0:Int)≤(k:Int):=by omega
      obtain⟨b,off,rfl,hb,hcell⟩:=HR.out b_37
      obtain⟨kv,hkv,hcl⟩:=hcell k hlt
      obtain⟨c0,c1,c2,c3,c4,c5⟩:=hcl wr GW.out
      have hmem:l[k]∈l:=List.getElem_mem hlt
      have kW:=fun W hW=>HW.out l[k] W hW hmem (fun c hc=>find_byid HASC.out hc) (alone_pos HALL1.out) (placed_up HALL2.out)
      have hpd:=(path_deep HASC.out (placed_up HALL2.out) hmem).1
      have hPK:∃ PK,RowKit.Hid (BrDeep l l[k]=PK):=⟨_,rfl⟩
      obtain⟨PK,HPK⟩:=hPK
      have HN:RowKit.Hid (¬ PK→¬ PR):=by rw[← HPK.out];exact fun h h2=>h ((HD.out.1 h2).2.2.2.2.2 k hlt)
      have HY:RowKit.Hid (PK→∀ j (h:j<l.length),j<k+1→BrDeep l l[j]):=by
       exact c_66
      rw[HPK.out] at hpd
      generalize pathW l l[k]=PW at kW hpd
      generalize l[k]=y at c0 c1 c2 c3 c4 c5 kW hkv
      obtain⟨yi,yp,yl,yt,ym,yk⟩:=y
      dsimp only at c0 c1 c2 c3 c4 c5 kW hkv
      have KW:=uZ kW
      have HPD:=uZ hpd
      clear kW M hcell hcl hkv c1 c2 c3 c4 c5 hpd hmem
      go_wp2_with fail
      refine region_still_tail 8 (by kernel_rfl) (by kernel_rfl) ?_
      simp only [List.take_succ_cons,List.take_zero,List.drop_succ_cons,List.drop_zero]
      iterate 8 still_step
      refine wpStill_nil ?_
      go_wp2_with fail
      refine(KW.out _ GW.out.drew).mono ?_
      rintro e w1 ⟨v1,rfl,s1,g1⟩
      have HG:=uZ (GW.out.drew.trans g1)
      have BG:=uZ (BW.out.drew.trans g1)
      obtain⟨A1,c1,rfl,hl1,hc1,-⟩:=s1.open_
      unfold maxLen at hc1
      clear g1 KW t0 t1 c0 s1
      dsimp only
      by_cases h0:PW.length=0
      ·have h0':((PW.length:Int) == 0)=true:=by simpa using h0
       have Hn:=uZ (HN.out (fun h=>(HPD.out.1 h).1 h0))
       clear h0
       go_wp2
       go_ret2
       exact RetIff2.no _ 17 b_36 Hn.out HG.out
      have h0':((PW.length:Int) == 0)=false:=by simpa using h0
      by_cases h12:12<PW.length
      ·have h12':(12:Int)<(PW.length:Int):=by omega
       have Hn:=uZ (HN.out (fun h=>by have:=(HPD.out.1 h).2;omega))
       clear h0
       go_wp2
       go_ret2
       exact RetIff2.no _ 15 b_36 Hn.out HG.out
      have h12':¬ (12:Int)<(PW.length:Int):=by omega
      have Hy:=uZ (HY.out (HPD.out.2 ⟨h0,by omega⟩))
      clear h0
      go_wp2
      go_roundg (l.length-(k+1))
      case measure=>omega
      case rel=>exact⟨k+1,by omega,by omega,by go_num,(show Aside _ from BG.out),(show Aside _ from Hy.out)⟩
     have hltz:¬ (k:Int)<(l.length:Int):=by omega
     have Hy:=uZ (HD.out.2 ⟨by omega,HALL1.out,HALL2.out,HALL3.out,HRT.out,fun j h=>M.out j h b_37⟩)
     clear M t0
     go_wp2
     go_ret2
     exact RetIff2.yes _ Hy.out GW.out
theorem refRight19 (rs:List Int) (l:List Br) (rv bv:Value) (w:World) (hr:SlI w rv rs) (hv:SlBr w bv l) (hf:FewBr l) (hrl:rs.length≤1000000) (hm:∀ i (h:i<l.length),l[i].mark.size≤9223372036854775807) :
  Calls Tryz.prog 55 #[.agg #[rv,bv]] w (RetB (RightT ⟨rs,l⟩) w):=by
 have K:=uZ (fun W (hW:Grew w W)=>refCheck19 rs l rv bv W (hr.mono hW) (hv.mono hW) hf hrl hm)
 clear hr hv hf hrl hm
 go_enter Tryz.func55,Tryz.ntmps55
 exact c_49
end Go.Proofs.YtafncfomiolmgaaGreatDoor
namespace Go.Proofs.YtafncfomiolmgaaGreatDoor
open Go.RowKit Go.Sort
theorem comp_len (l:List Int):(Lib.compact l).length≤l.length:=by
 unfold Lib.compact Lib.compactUpTo
 rw[List.length_map]
 have:=List.length_filter_le (Lib.keeps l.toArray) (List.range l.length)
 simpa using this
theorem compact_own (l:List Int) (w0:World) (e:TypeId) (v:Value) (w:World) (hown:w.ownsRow w0.heap.size e 1 v l.length (l.flatMap oneI)) (hg:Grew w0 w) (hl:l.length≤1000000) (hcl:(Lib.compact l).length≤l.length) :
  Calls Tryz.prog 66 #[v] w fun en w'=>∃ v',en=.returned v'∧SlI w' v' (Lib.compact l)∧Grew w0 w':=by
 rcases Nat.eq_zero_or_pos l.length with h0|h0
 ·obtain rfl:l=[]:=List.eq_nil_of_length_eq_zero h0
  have hv:∃ A c,v=.slice A 0 c:=by
   rcases hown.2 with ⟨rfl,_⟩|⟨g,cap,cur,rfl,_⟩
   ·exact⟨_,_,rfl⟩
   ·exact⟨_,_,rfl⟩
  obtain⟨A,c,rfl⟩:=hv
  refine(Tryz.slices_Compact_int_empty A c w).mono ?_
  rintro en w' ⟨rfl,rfl⟩
  have hc0:Lib.compact ([]:List Int)=[]:=List.eq_nil_of_length_eq_zero (by simpa using hcl)
  refine⟨_,rfl,?_,hg⟩
  rw[hc0]
  exact Rd.of_own hown
 ·obtain⟨g,cap,rfl,hbg,hlt,hcap⟩:=own_form hown h0
  have hH:=holdsI_of_own hown
  refine(Tryz.slices_Compact_int g 0 cap l w hH b_37 hcap).mono ?_
  rintro en w' ⟨rfl,n,rfl⟩
  have hfl:(Lib.compact l++List.replicate (l.length-(Lib.compact l).length) (0:Int)).length=l.length:=by simp;omega
  have hh2:=holds_putRow (Value.int .i64) (Sort.ahead w n) g 0 l.toArray (Lib.compact l++List.replicate (l.length-(Lib.compact l).length) (0:Int)).toArray (holds_ahead _ _ _ _ _ _ hH) (by simpa using hfl)
  have hs:=slI_of_holds hh2 (by simp;omega) (by rw[hfl];exact hcap) (own_max hown)
  refine⟨_,rfl,?_,grew_putI hbg hg _ _⟩
  have:=Rd.take (k:=1) (f:=oneI) (fun _=>rfl) b_37 (show Rd _ 1 _ (_) from hs) (Lib.compact l).length b_38
  rw[List.take_left] at this
  exact this
end Go.Proofs.YtafncfomiolmgaaGreatDoor
namespace Go.Proofs.YtafncfomiolmgaaGreatDoor
open Go.RowKit Go.Maps
def setInts (ks:List Int):DataW Unit:=setOf (.lit (.bool true)) (ks.map fun n=>.int .i64 n)
theorem has_setInts (ks:List Int) (n:Int):has (setInts ks) (.int .i64 n)=true↔n∈ks:=by
 unfold setInts
 rw[has_setOf _ _ _ (fun x hx=>by
  obtain⟨m,_,rfl⟩:=List.mem_map.1 hx
  trivial),List.any_eq_true]
 constructor
 ·rintro ⟨x,hx,hs⟩
  obtain⟨m,hm,rfl⟩:=List.mem_map.1 hx
  simp[Lit.sameKey] at hs
  exact hs▸hm
 ·intro h
  exact⟨_,List.mem_map.2 ⟨n,h,rfl⟩,by simp[Lit.sameKey]⟩
def CollI (D0:DataW Unit) (left:Lit→Bool) (ks:List Int):Prop:=ks.Nodup∧∀ x,x∈ks↔(has D0 (.int .i64 x)=true∧left (.int .i64 x)=false)
theorem CollI.start (D0:DataW Unit):CollI D0 (has D0) []:=⟨List.nodup_nil,fun x=>by cases has D0 (.int .i64 x)<;>simp⟩
theorem CollI.step {D0:DataW Unit} {left:Lit→Bool} {ks:List Int} (h:CollI D0 left ks) {x:Int} {y:DataW Unit} (hlk:left (.int .i64 x)=true) (hat:∀ zd,D0.atKey (.int .i64 x) zd=y):CollI D0 (fun z=>left z && !z.sameKey (.int .i64 x)) (ks++[x]):=by
 have hhas:has D0 (.int .i64 x)=true:=has_true_of_atKey hat
 have hnew:x∉ks:=fun hx=>by have:=((h.2 x).1 hx).2;rw[hlk] at this;cases this
 refine⟨List.nodup_append.2 ⟨h.1,by simp,fun a ha b hb=>by simp at hb;subst hb;exact fun e=>hnew (e▸ha)⟩,fun y=>?_⟩
 by_cases hy:y=x
 ·subst hy;simp[hhas,Lit.sameKey]
 ·simp[h.2 y,hy,Lit.sameKey]
theorem CollI.done {ks0:List Int} {left:Lit→Bool} {ks:List Int} (h:CollI (setInts ks0) left ks) (hl:∀ kl,left kl=false):ks.Nodup∧∀ n,n∈ks↔n∈ks0 :=
 ⟨h.1,fun n=>by rw[h.2 n,has_setInts];simp[hl]⟩
theorem row_ne_map {P:Program} {k:TypeId} {R:Value→Option (DataW Unit × List MemPlace)} {w:World} {b n:Nat} {D:DataW Unit} {base:Nat} {e:TypeId} {size:Nat} {v:Value} {m:Nat} {xs:List Value}
  (h:w.ownsRow base e size v m xs) (hm:w.ownsMap P k R b n D):some b≠v.ownBlock:=by
 obtain⟨es,clock,hit,_⟩:=hm
 rcases h.2 with ⟨rfl,_⟩|⟨g,cap,cur,rfl,_,hb,_⟩
 ·simp[Value.ownBlock]
 ·intro e1
  have:b=g:=by simpa [Value.ownBlock] using e1
  subst this
  rw[hit] at hb
  cases hb
end Go.Proofs.YtafncfomiolmgaaGreatDoor
namespace Go.Proofs.YtafncfomiolmgaaGreatDoor
open Go.RowKit
theorem find_mem {l:List Br} {id:Int} {b:Br} (h:brFind l id=some b):b∈l∧b.id=id:=by
 refine⟨List.mem_of_find?_eq_some h,?_⟩
 have:=List.find?_some h
 simpa using this
def Way (l:List Br) (rest:List Int) (z:Int):Prop:=(rest=[]∧z=0)∨∃ y n,y∈l∧z=y.id∧rest=upIds l n y∧(deep l n y).isSome=true
theorem Way.step {l:List Br} (hP:∀ i (h:i<l.length),BrPlaced l l[i]) {y:Br} {n:Nat} (hy:y∈l) (hd:(deep l n y).isSome=true):∃ rest,upIds l n y=y.id::rest∧Way l rest y.parent:=by
 by_cases h0:y.parent=0
 ·exact⟨[],upIds_top l n y h0,.inl ⟨rfl,h0⟩⟩
 ·cases n with
  | zero=>rw[deep_cycle l y h0] at hd;cases hd
  | succ n =>
   obtain⟨j,hj,rfl⟩:=List.mem_iff_getElem.1 hy
   have:=hP j hj
   unfold BrPlaced at this
   rw[if_neg h0] at this
   obtain⟨p,hp,_⟩:=this
   obtain⟨hpm,hpi⟩:=find_mem hp
   refine⟨upIds l n p,upIds_up l n _ p h0 hp,.inr ⟨p,n,hpm,hpi.symm,rfl,?_⟩⟩
   rw[deep_up l n _ p h0 hp] at hd
   simpa using hd
end Go.Proofs.YtafncfomiolmgaaGreatDoor
namespace Go.Proofs.YtafncfomiolmgaaGreatDoor
open Go.RowKit Go.Shelf
attribute [local go_sem] Oper.semAt_some
theorem rd_set {W:World} {k:Nat} {v:Value} {cs:List Value} {p:Addr} (u:Value) (h:Rd W k v cs) (hp:v.ownBlock≠some p.block):Rd (W.setCell p u) k v cs:=by
 obtain⟨A,n,c,rfl,hl,hn,hc,h0⟩:=h
 refine⟨A,n,c,rfl,hl,hn,hc,fun hpos=>?_⟩
 obtain⟨b,off,rfl,hb,hcell⟩:=h0 hpos
 refine⟨b,off,rfl,by simpa using hb,fun j x hx=>?_⟩
 rw[uV _ _ _ _ (fun e=>hp (by subst e;rfl))]
 exact hcell j x hx
end Go.Proofs.YtafncfomiolmgaaGreatDoor
namespace Go.Proofs.YtafncfomiolmgaaGreatDoor
open Go.RowKit
def KnownEnd (t:Tr) (id:Int) (top:Bool) (w:World) (e:Ending) (w':World):Prop:=∃ n:Int,e=.returned (.int .i64 n)∧(¬ RightT t→n=1)∧(RightT t→n=if ((brFind t.brs id).isSome || (top && (id == 0))) then 0 else 7)∧Grew w w'
set_option maxHeartbeats 8000000 in
theorem refKnown (rs:List Int) (l:List Br) (id:Int) (top:Bool) (rv bv:Value) (w:World) (hr:SlI w rv rs) (hv:SlBr w bv l) (hf:FewBr l) (hrl:rs.length≤1000000) (hm:∀ i (h:i<l.length),l[i].mark.size≤9223372036854775807) :
  Calls Tryz.prog 145 #[.agg #[rv,bv],.int .i64 id,.bool top] w (KnownEnd ⟨rs,l⟩ id top w):=by
 have HR:=uZ (fun W (hW:Grew w W)=>refRight19 rs l rv bv W (hr.mono hW) (hv.mono hW) hf hrl hm)
 have kI:=fun W (hW:Grew w W)=>refFind19 l id rv bv W (hv.mono hW)
 have HD:RowKit.Hid (∀ n w',(¬ RightT ⟨rs,l⟩→n=1)→(RightT ⟨rs,l⟩→n=if ((brFind l id).isSome || (top && (id == 0))) then 0 else 7)→Grew w w'→KnownEnd ⟨rs,l⟩ id top w (.returned (.int .i64 n)) w'):=fun n w' h1 h2 h3=>⟨n,rfl,h1,h2,h3⟩
 generalize KnownEnd ⟨rs,l⟩ id top w=KE at HD ⊢
 generalize RightT ⟨rs,l⟩=PR at HR HD
 unfold TFindEnd at kI
 generalize hO:(brFind l id).isSome=os at kI HD
 generalize (brFind l id).getD br0=y at kI
 obtain⟨yi,yp,yl,yt,ym,yk⟩:=y
 dsimp only at kI
 have KI:=uZ kI
 obtain⟨A,c,rfl,-,-,-⟩:=hv.open_
 obtain⟨B,d,rfl,-,-,-⟩:=hr.open_
 clear hr hv hf hrl hm kI hO
 cases hb2:(id == 0)<;>cases top<;>cases os
 all_goals
  rw[hb2] at HD
  go_enter Tryz.func145,Tryz.ntmps145
  go_wp2_with fail
  refine(HR.out _ ((uX w).alloc _)).mono ?_
  rintro e w1 ⟨q,rfl,hq,g1⟩
  have t0:=yQ g1 0 _ rfl
  have t1:=yQ g1 1 _ rfl
  have HG:=uZ (((uX w).alloc _).trans g1)
  have HQ:=uZ hq
  clear g1 hq
  dsimp only
  cases q
  ·have Hn:RowKit.Hid (¬ PR):=fun h=>by have:=HQ.out.2 h;cases this
   go_wp2
   exact HD.out _ _ (fun _=>rfl) (fun h=>absurd h Hn.out) HG.out
  ·have Hy:=uZ (HQ.out.1 rfl)
   go_wp2_with fail
   refine(KI.out _ HG.out).mono ?_
   rintro e w2 ⟨rfl,g2⟩
   have HG2:=uZ (HG.out.trans g2)
   clear g2 t0 t1
   dsimp only
   go_wp2
   exact HD.out _ _ (fun h=>absurd Hy.out h) (fun _=>rfl) (HG2.out.alloc _)
end Go.Proofs.YtafncfomiolmgaaGreatDoor
namespace Go.Proofs.YtafncfomiolmgaaGreatDoor
open Go.RowKit Go.Shelf
attribute [local go_sem] Oper.semAt_some
theorem room_free {F:Fence} (hd:F.depth=none) (k:Nat):F.room k:=fun d h=>by rw[hd] at h;cases h
theorem roundFree {F:Fence} (hd:F.depth=none) {m m':Nat} {P:Program} {l:Nat} {f:FuncId} {tmps:Array Value} {assign body:Code} {w:World} {R:Ending→World→Prop}
  (h:RoundIn F m P l f tmps assign body w R):RoundIn F m' P l f tmps assign body w R:=⟨h.1,fun c cs _=>h.2 c cs (room_free hd _)⟩
theorem yieldFree {F:Fence} (hd:F.depth=none) {m:Nat} (m':Nat) {P:Program} {l:Nat} {args:Array Value} {W:World} {R:Ending→World→Prop} (h:YieldAt F m P l args W R):YieldAt F m' P l args W R:=by
 obtain⟨fn,tmps,assign,body,hy,hR⟩:=h
 exact⟨fn,tmps,assign,body,hy,roundFree hd hR⟩
structure KpO (B:Nat) (W W':World):Prop where
 size:W.heap.size≤W'.heap.size
 block:∀ k o,W.heap[k]? = some o→o.isCells=true→k≠B→(∀ v,W.cell? ⟨B,0,none⟩=some v→v.ownBlock≠some k)→W'.heap[k]? = some o
 row:∀ v',W'.cell? ⟨B,0,none⟩=some v'→(∃ v,W.cell? ⟨B,0,none⟩=some v∧v.ownBlock=v'.ownBlock)∨∀ b,v'.ownBlock=some b→W.heap.size≤b∧b<W'.heap.size
def OutIn (B:Nat) (W:World):Prop:=B<W.heap.size∧∀ v,W.cell? ⟨B,0,none⟩=some v→∀ b,v.ownBlock=some b→b<W.heap.size
def Prot (B:Nat) (W:World) (k:Nat) (o:Obj):Prop:=W.heap[k]? = some o∧o.isCells=true∧k≠B∧∀ v,W.cell? ⟨B,0,none⟩=some v→v.ownBlock≠some k
def KpB (n₀ B:Nat) (W W':World):Prop:=Below n₀ W W'∧KpO B W W'
section
variable {n₀ B k:Nat} {W W' W2:World} {o:Obj}
theorem KpO.refl (B:Nat) (W:World):KpO B W W:=⟨Nat.le_refl _,fun _ _ h _ _ _=>h,fun v' h=>.inl ⟨v',h,rfl⟩⟩
theorem KpO.trans (h:KpO B W W') (j:KpO B W' W2):KpO B W W2:=by
 refine⟨Nat.le_trans h.size j.size,fun k o ho hc hne hr=>?_,fun v' hv'=>?_⟩
 ·refine j.block k o (h.block k o ho hc hne hr) hc hne fun v' hv' hb=>?_
  have hk:=(Array.getElem?_eq_some_iff.1 ho).1
  rcases h.row v' hv' with ⟨v,hv,e⟩|h2
  ·exact hr v hv (by rw[e];exact hb)
  ·have:=(h2 k hb).1
   omega
 ·rcases j.row v' hv' with ⟨v,hv,e⟩|h2
  ·rcases h.row v hv with ⟨u,hu,e2⟩|h3
   ·exact .inl ⟨u,hu,e2.trans e⟩
   ·refine .inr fun b hb=>?_
    have h4:=h3 b (by rw[e];exact hb)
    have:=j.size
    omega
  ·refine .inr fun b hb=>?_
   have h4:=h2 b hb
   have:=h.size
   omega
theorem KpO.grew (hB:B<W.heap.size) (h:Grew W W'):KpO B W W' :=
 ⟨h.size,fun k o ho _ _ _=>by rw[h.block k (Array.getElem?_eq_some_iff.1 ho).1];exact ho,fun v' hv'=>.inl ⟨v',by rw[← h.cell hB];exact hv',rfl⟩⟩
theorem OutIn.kp (h:OutIn B W) (j:KpO B W W'):OutIn B W':=by
 refine⟨Nat.lt_of_lt_of_le h.1 j.size,fun v' hv' b hb=>?_⟩
 rcases j.row v' hv' with ⟨v,hv,e⟩|h2
 ·exact Nat.lt_of_lt_of_le (h.2 v hv b (by rw[e];exact hb)) j.size
 ·exact(h2 b hb).2
theorem Prot.kp (h:Prot B W k o) (j:KpO B W W'):Prot B W' k o:=by
 obtain⟨h1,h2,h3,h4⟩:=h
 refine⟨j.block k o h1 h2 h3 h4,h2,h3,fun v' hv' hb=>?_⟩
 have hk:=(Array.getElem?_eq_some_iff.1 h1).1
 rcases j.row v' hv' with ⟨v,hv,e⟩|h5
 ·exact h4 v hv (by rw[e];exact hb)
 ·have:=(h5 k hb).1
  omega
theorem Prot.new (h:OutIn B W) (hc:o.isCells=true):Prot B (W.alloc o) W.heap.size o:=by
 refine⟨World.alloc_heap_new W o,hc,by have:=h.1;omega,fun v hv hb=>?_⟩
 have hv2:W.cell? ⟨B,0,none⟩=some v:=by rw[← hv];exact(World.cell?_alloc_lt _ _ _ h.1).symm
 have:=h.2 v hv2 _ hb
 omega
theorem Prot.cell {vs:Array Value} {t:TypeId} (h:Prot B W k (.cells vs t (0,0))) (j:Nat) (v:Value) (hj:vs[j]? = some v):W.cell? ⟨k,j,none⟩=some v:=by
 simp[World.cell?,h.1,hj]
theorem KpB.refl (n₀ B:Nat) (W:World):KpB n₀ B W W:=⟨Below.refl _ _,KpO.refl _ _⟩
theorem KpB.trans (h:KpB n₀ B W W') (j:KpB n₀ B W' W2):KpB n₀ B W W2:=⟨h.1.trans j.1,h.2.trans j.2⟩
theorem KpB.grew (hB:B<W.heap.size) (hn:n₀≤W.heap.size) (h:Grew W W'):KpB n₀ B W W':=⟨h.below.mono hn,KpO.grew hB h⟩
theorem kpB_put {w:World} (hn:n₀≤w.heap.size) (hB:B<w.heap.size) (W:World) (l:Nat) (o o':Obj) (hl:w.heap.size≤l) (h:W.heap[l]? = some o) (hc:o.isCells=false) (hw:o.isWalk=false):KpB n₀ B W (W.putObj l o'):=by
 have hg:=grownBy_putObj' W l o'
 refine⟨belowK_b hn W l o o' hl h hc hw,hg.size,fun k o2 ho hc2 _ _=>?_,fun v' hv'=>.inl ⟨v',?_,rfl⟩⟩
 ·rw[hg.block k (Array.getElem?_eq_some_iff.1 ho).1 (fun e=>?_)]
  ·exact ho
  ·injection e with e
   subst e
   rw[h] at ho
   injection ho with ho
   rw[← ho,hc] at hc2
   cases hc2
 ·have hBW:B<W.heap.size:=by have:=(Array.getElem?_eq_some_iff.1 h).1;omega
  rw[← hv']
  exact(World.cell?_of_block (hg.block B hBW (fun e=>by injection e with e;omega))).symm
end
theorem idxEff (l:List Int) (g:Nat) (lb:Array Value) (eg:∀ args w,(callFunc g args).run Tryz.prog w=.ok (.enter g args) w) (v:Value) (w0 w:World) (hv:SlI w0 v l) (R:Nat→World→Prop) (St:World→Prop) (hR0:R 0 w) (hRg:∀ i W,R i W→Grew w0 W)
  (hp:∀ i (hi:i<l.length) W,R i W→Calls Tryz.prog g (#[(.int .i64 l[i])]++lb) W fun e w'=>(e=.returned (.bool false)∧R (i+1) w')∨(e=.returned (.bool true)∧St w')) :
  Calls Tryz.prog 75 #[v,.func (.func g) #[] lb] w fun e w'=>(e=.returned (.int .i64 (-1))∧R l.length w')∨(∃ i:Nat,e=.returned (.int .i64 (i:Int))∧St w'):=by
 obtain⟨A,c,rfl,hlc,hc,hr⟩:=hv.open_
 unfold maxLen at hc
 have HR:=uZ hr
 have HP:=uZ hp
 have HG:=uZ hRg
 have HR0:=uZ hR0
 clear hr hp hv hRg hR0
 go_enter Tryz.func75,Tryz.ntmps75
 go_wp2
 go_loopg [5,8] l.length (fun gg _ s8 wr=>∃ kk:Nat,kk≤l.length∧l.length-kk≤gg∧s8=.int .i64 kk∧Aside (R kk wr))
 case atStart=>exact⟨0,Nat.zero_le _,by omega,rfl,HR0.out⟩
 case round =>
  obtain⟨kk,hkk,hg,rfl,BW⟩:=hrel
  by_cases hlt:kk<l.length
  ·obtain⟨b,off,rfl,hb,hcell⟩:=HR.out b_37
   obtain c0:=hcell wr (HG.out kk wr BW.out) kk hlt
   have hcall:=HP.out kk hlt wr BW.out
   have hltz:(kk:Int)<(l.length:Int):=by omega
   clear hcell
   generalize l[kk]=y at c0 hcall
   go_wp2_with (go_at_fn g;refine hcall.mono ?_;rintro e w' (⟨rfl,hb'⟩|⟨rfl,hb'⟩))
   ·go_roundg (l.length-(kk+1))
    case measure=>omega
    case rel=>exact⟨kk+1,by omega,by omega,by go_num,(show Aside _ from hb')⟩
   ·go_ret
    exact .inr ⟨kk,rfl,hb'⟩
  ·have hltz:¬ (kk:Int)<(l.length:Int):=by omega
   obtain rfl:kk=l.length:=by omega
   go_wp2
   go_ret
   exact .inl ⟨rfl,BW.out⟩
theorem containsEff (l:List Int) (g:Nat) (lb:Array Value) (eg:∀ args w,(callFunc g args).run Tryz.prog w=.ok (.enter g args) w) (v:Value) (w0 w:World) (hv:SlI w0 v l) (R:Nat→World→Prop) (St:World→Prop) (hR0:R 0 w) (hRg:∀ i W,R i W→Grew w0 W)
  (hp:∀ i (hi:i<l.length) W,R i W→Calls Tryz.prog g (#[(.int .i64 l[i])]++lb) W fun e w'=>(e=.returned (.bool false)∧R (i+1) w')∨(e=.returned (.bool true)∧St w')) :
  Calls Tryz.prog 121 #[v,.func (.func g) #[] lb] w fun e w'=>(e=.returned (.bool false)∧R l.length w')∨(e=.returned (.bool true)∧St w'):=by
 have K:=uZ (idxEff l g lb eg v w0 w hv R St hR0 hRg hp)
 clear hv hR0 hRg hp
 go_enter Tryz.func121,Tryz.ntmps121
 go_wp2_with fail
 refine K.out.mono ?_
 rintro e w1 (⟨rfl,h⟩|⟨i,rfl,h⟩)
 ·dsimp only
  go_wp2
  go_ret
  exact .inl ⟨rfl,h⟩
 ·have h0:(0:Int)≤(i:Int):=by omega
  dsimp only
  go_wp2
  go_ret
  exact .inr ⟨rfl,h⟩
end Go.Proofs.YtafncfomiolmgaaGreatDoor