/- Lemmas on what the functions of the program and of the library compute: RE2. The conditions stand at each. -/
import Derived.Test.YtdochkemaiokfaaGreatQ8
import Derived.Test.YtdochkemaiokfaaGreatQ2
set_option maxHeartbeats 16000000
set_option maxRecDepth 100000
set_option linter.all false
namespace Go.Proofs.YtdochkemaiokfaaGreat
open Go.RowKit
theorem c_91 {p:Prop} (h:p:=by
 exact e_16
):p:=h
theorem h_33 {p:Prop} (h:p:=by
 exact hcz ((w.alloc (.cells [rv,.slice (some ⟨b,off,none⟩) l.length c].toArray 43)).alloc (.cells [.int .i64 yi,.int .i64 yp,.int .i64 yl,.string yt,.string ym].toArray 64)) HGB.out
):p:=h
theorem h_42 {p:Prop} (h:p:=by
 exact(show RowKit.Hid (q5=false→PA) from fun h=>HD.out.2 ⟨HQ1.out,by first|rfl|trivial,HPPT.out,by first|rfl|trivial,HMI.out.2 ⟨by first|rfl|trivial,h⟩⟩)
):p:=h
theorem h_54 {p:Prop} (h:p:=by
 exact(show RowKit.Hid PA from HD.out.2 ⟨HQ1.out,by first|rfl|trivial,HPPT.out,by first|rfl|trivial,HMK.out.2 (fun h=>by rw[he] at h;cases h)⟩)
):p:=h
theorem h_70 {p:Prop} (h:p:=by
 exact(show RowKit.Hid (q5=true→¬ PA) from fun h h2=>by have:=(HMI.out.1 (HD.out.1 h2).2.2.2.2).2;rw[h] at this;cases this)
):p:=h
theorem aWf {p c:Int} (h:fX p c=true):c≠1:=by
 unfold fX aN at h;simp at h;omega
theorem aPt (l:List Br) (y:Br) (rv bv:Value) (w:World) (hv:bQ w bv l) :
  Calls Tryz.prog 202 #[.agg #[rv,bv],.agg #[.int .i64 y.id,.int .i64 y.parent,.int .i64 y.level,.string y.title,.string y.mark]] w (bM (aX l y) w):=by
 have HD:RowKit.Hid (aX l y↔if y.parent=0 then y.level=1 else ∃ p,aE l y.parent=some p∧y.level≠1∧fX p.level y.level=true):=Iff.rfl;generalize aX l y=PA at HD ⊢;obtain⟨yi,yp,yl,yt,ym,yk⟩:=y;dsimp only at HD ⊢;have kI:=fun W (hW:aA w W)=>aR l yp rv bv W (hv.mono hW)
 obtain⟨A,c,rfl,-,-,-⟩:=hv.open_;have HGB:=uZ (((uX w).alloc (.cells [rv,.slice A l.length c].toArray 43)).alloc (.cells [.int .i64 yi,.int .i64 yp,.int .i64 yl,.string yt,.string ym].toArray 64));clear hv;by_cases hp:yp=0
 ·subst hp
  have HDI:RowKit.Hid (PA↔yl=1):=by
   show _↔_;rw[HD.out,if_pos rfl]
  clear kI;by_cases h1:yl=1
  ·subst h1
   have Hy:RowKit.Hid PA:=HDI.out.2 rfl;go_enter Tryz.func202,Tryz.ntmps202;go_wp2;go_ret;exact bM.yes Hy.out HGB.out
  ·have h1':(yl != 1)=true:=by simpa using h1
   have Hn:RowKit.Hid (¬ PA):=fun h=>h1 (HDI.out.1 h)
   clear h1;go_enter Tryz.func202,Tryz.ntmps202;go_wp2;go_ret;exact bM.no 18 b_52 Hn.out HGB.out
 have hp':(yp == 0)=false:=by simpa using hp
 have HDI:=h_80;clear HD hp;generalize aE l yp=O at kI HDI;unfold aY at kI;have KI:=uZ kI;clear kI
 cases O with
 | none =>
  have Hn:RowKit.Hid (¬ PA):=fun h=>by
   obtain⟨p,hpp,_⟩:=HDI.out.1 h;cases hpp
  simp only [Option.getD_none,Option.isSome_none,br0] at KI;go_enter Tryz.func202,Tryz.ntmps202;go_wp2_with fail;refine(KI.out _ HGB.out).mono ?_;rintro e w1 ⟨rfl,g1⟩;dsimp only;go_wp2;go_ret;exact bM.no 7 b_52 Hn.out ((HGB.out.trans g1).alloc _)
 | some p =>
  obtain⟨pi,pp,pl,pt,pm,pk⟩:=p;simp only [Option.getD_some,Option.isSome_some] at KI;have kf:=aKn pl yl
  have HIF:RowKit.Hid (PA↔fX pl yl=true):=by
   show _↔_;rw[HDI.out];constructor
   ·rintro ⟨p,hp,_,h⟩
    cases hp;exact h
   ·intro h
    exact⟨_,rfl,aWf h,h⟩
  generalize fX pl yl=q at kf HIF;have KF:=uZ kf;clear kf HDI;go_enter Tryz.func202,Tryz.ntmps202;go_wp2_with fail;refine(KI.out _ HGB.out).mono ?_;rintro e w1 ⟨rfl,g1⟩;have HG1:=uZ (g1.alloc (.cells [.int .i64 pi,.int .i64 pp,.int .i64 pl,.string pt,.string pm].toArray 64));have n2:=cZ HG1.out 2 _ rfl;have HW1:=uZ (HGB.out.trans HG1.out);clear g1;dsimp only;go_wp2_with fail;refine(KF.out _).mono ?_;rintro e w2 ⟨rfl,rfl⟩;dsimp only;cases q
  ·have Hn:RowKit.Hid (¬ PA):=fun h=>by have:=HIF.out.1 h;cases this
   go_wp2;go_ret;exact bM.no 18 b_52 Hn.out HW1.out
  ·have Hy:RowKit.Hid PA:=HIF.out.2 rfl
   go_wp2;go_ret;exact bM.yes Hy.out HW1.out
theorem aSe {l:List Br} {i:Nat} (hi:i≤l.length) {m:ByteArray}:(l.take i).any (fun b=>b.mark.toList == m.toList)=true↔∃ j,∃ h:j<l.length,j<i∧(l[j].mark.toList == m.toList)=true:=by
 rw[List.any_eq_true];constructor
 ·rintro ⟨b,hb,h⟩
  obtain⟨j,hj,rfl⟩:=List.mem_iff_getElem.1 hb;rw[List.length_take] at hj;exact⟨j,by omega,by omega,by simpa using h⟩
 ·rintro ⟨j,hj,hji,h⟩
  exact⟨l[j],List.mem_iff_getElem.2 ⟨j,by rw[List.length_take];omega,List.getElem_take⟩,h⟩
theorem aPv (l:List Br) (i:Nat) (hi:i<l.length) (rv bv:Value) (w:World) (hv:bQ w bv l) (hm:l[i].mark.size≤9223372036854775807) :
  Calls Tryz.prog 201 #[.agg #[rv,bv],.int .i64 i] w (bM (cB l i hi) w):=by
 obtain⟨A,c,rfl,hlc,hc,hr⟩:=hv.open_;unfold maxLen at hc;obtain⟨b,off,rfl,hbk,hcell⟩:=hr b_53;obtain⟨kv,-,hcl⟩:=hcell i hi;obtain⟨c0,c1,c2,c3,c4,-⟩:=hcl (w.alloc (.cells [rv,.slice (some ⟨b,off,none⟩) l.length c].toArray 43)) ((uX w).alloc _);have HD:=h_27;have HPREV:=h_21
 have HMC:RowKit.Hid (∀ j (h:j<l.length) W,aA w W→W.cell? ⟨b,off+j*6+4,none⟩=some (.string l[j].mark)):=fun j h W hW=>by
  obtain⟨_,_,hq⟩:=hcell j h;exact(hq W hW).2.2.2.2.1
 have hiz:=h_207;have h0z:=h_215;generalize cB l i hi=PA at HD ⊢;generalize hp:(0<i→(l[i-1]'b_53).id<l[i].id)=PP at HD;have HU:=uZ (fun m=>aSe (l:=l) (i:=i) b_53 (m:=m));generalize l[i]=y at c0 c1 c2 c3 c4 HD hp hm;obtain⟨yi,yp,yl,yt,ym,yk⟩:=y;dsimp only at c0 c1 c2 c3 c4 HD hp hm;have HPP:=uZ hp;have kl:=rO yl;have kn:=aCb yt;have km:=fun W=>aCi ym W hm
 have HUM:=uZ (HU.out ym);have HMK:=h_44;have HW0:RowKit.Hid (aN yi 1 1073741824=true↔1≤yi∧yi≤1073741824):=vX;generalize sW l i ym=PM at HD HMK;generalize aN yi 1 1073741824=q1 at HW0 HD;generalize aN yl 1 4=q2 at kl HD;generalize fB yt.data.toList=q3 at kn HD;generalize jP ym.data.toList=q4 at km HMK;generalize (l.take i).any (fun b=>b.mark.toList == ym.toList)=q5 at HUM HMK;have KL:=uZ kl;have KN:=uZ kn;have KM:=uZ km;have HGB:=uZ (((uX w).alloc (.cells [rv,.slice (some ⟨b,off,none⟩) l.length c].toArray 43)).alloc (.cells [.int .i64 yi,.int .i64 yp,.int .i64 yl,.string yt,.string ym].toArray 64));clear hp kl kn km hcell hcl hr hv HU hm;by_cases hq1:1≤yi∧yi≤1073741824
 case neg =>
  have Hn:RowKit.Hid (¬ PA):=fun h=>hq1 (HW0.out.1 (HD.out.1 h).1)
  have hsp:decide (yi<1)=true∨(decide (yi<1)=false∧decide (1073741824<yi)=true):=by
   by_cases h:yi<1
   ·exact .inl b_49
   ·exact .inr ⟨by simpa using h,by simp;omega⟩
  clear hq1;rcases hsp with a1|⟨a1,a2⟩
  all_goals
   go_enter Tryz.func201,Tryz.ntmps201;go_wp2;go_ret;exact bM.no 2 b_52 Hn.out HGB.out
 have HQ1:=uZ (HW0.out.2 hq1);have a1:decide (yi<1)=false:=by simp;omega
 have a2:decide (1073741824<yi)=false:=by simp;omega
 clear hq1
 cases q2 with
 | false =>
  have Hn:RowKit.Hid (¬ PA):=fun h=>by have:=(HD.out.1 h).2.1;cases this
  go_enter Tryz.func201,Tryz.ntmps201;go_wp2_with fail;refine(KL.out _).mono ?_;rintro e w1 ⟨rfl,rfl⟩;dsimp only;go_wp2;go_ret;exact bM.no 2 b_52 Hn.out HGB.out
 | true =>
 have hsp:(0<i∧¬ PP∧∃ z,z=z∧(∀ W,aA w W→W.cell? ⟨b,off+(i-1)*6,none⟩=some (.int .i64 z))∧yi≤z)∨(i=0∧PP)∨(0<i∧PP∧∃ z,z=z∧(∀ W,aA w W→W.cell? ⟨b,off+(i-1)*6,none⟩=some (.int .i64 z))∧z<yi):=by
  rcases Nat.eq_zero_or_pos i with h0|h0
  ·exact .inr (.inl ⟨h0,by rw[← HPP.out];intro h;omega⟩)
  ·by_cases h1:(l[i-1]'b_53).id<yi
   ·exact .inr (.inr ⟨h0,by rw[← HPP.out];exact fun _=>h1,_,rfl,HPREV.out h0,h1⟩)
   ·exact .inl ⟨h0,by rw[← HPP.out];exact fun h=>h1 (h h0),_,rfl,HPREV.out h0,by omega⟩
 rcases hsp with ⟨h0,hpp,z,-,hcz,hz⟩|hok
 ·have Hn:RowKit.Hid (¬ PA):=fun h=>hpp (HD.out.1 h).2.2.1
  have hkz:(0:Int)<(i:Int):=by omega
  have hki:(0:Int)≤(i:Int)-1:=by omega
  have hki3:(1:Int)≤(i:Int):=by omega
  have hki2:(i:Int)-1<(l.length:Int):=by omega
  have hkt:((i:Int)-1).toNat=i-1:=by omega
  have d0:=h_33;clear hcz hpp;go_enter Tryz.func201,Tryz.ntmps201;go_wp2_with fail;refine(KL.out _).mono ?_;rintro e w1 ⟨rfl,rfl⟩;dsimp only;have hwr:=h_141;go_wp2;go_quiet (fail);clear hwr d0;go_wp2;go_ret;exact bM.no 5 b_52 Hn.out (HGB.out.drewN _)
 have HPPT:RowKit.Hid PP:=by
  rcases hok with h|h
  ·exact h.2
  ·exact h.2.1
 have hok2:(i=0)∨(0<i∧∃ z,z=z∧(∀ W,aA w W→W.cell? ⟨b,off+(i-1)*6,none⟩=some (.int .i64 z))∧z<yi):=by
  rcases hok with h|⟨h0,-,z,h⟩
  ·exact .inl h.1
  ·exact .inr ⟨h0,z,h⟩
 clear hok HPREV;rcases hok2 with hi0|⟨h0,z,-,hcz,hz⟩
 ·subst hi0
  simp only [Nat.zero_mul,Nat.add_zero] at c0 c1 c2 c3 c4;go_enter Tryz.func201,Tryz.ntmps201;go_wp2_with fail;refine(KL.out _).mono ?_;rintro e w1 ⟨rfl,rfl⟩;dsimp only;go_wp2;go_quiet (fail);go_wp2_with fail;refine(KN.out _).mono ?_;rintro e w2 ⟨rfl,g2⟩;have HG2:=uZ ((aA.drewN (uX _) _).trans g2);have HW2:=uZ ((aA.drewN HGB.out _).trans g2);have m4:=cZ HG2.out 4 _ rfl;clear g2;dsimp only
  cases q3 with
  | false =>
   exact e_17
  | true =>
  cases he:ym.toList.isEmpty with
  | true =>
   have Hy:=h_54;have hee:ym.toList=[]:=List.isEmpty_iff.1 he;go_wp2;go_loopg [6] 0 (fun gg s6 wr=>∃ k:Nat,k≤0∧0-k≤gg∧s6=.int .i64 k∧Aside (aA ((w.alloc (.cells [rv,.slice (some ⟨b,off,none⟩) l.length c].toArray 43)).alloc (.cells [.int .i64 yi,.int .i64 yp,.int .i64 yl,.string yt,.string ym].toArray 64)) wr))
   case atStart=>exact⟨0,by omega,by omega,rfl,(show Aside _ from HG2.out)⟩
   case round =>
    obtain⟨k,hk,hgk,rfl,BW⟩:=hrel;obtain rfl:k=0:=by omega
    go_wp2;go_ret;exact bM.yes Hy.out (HGB.out.trans BW.out)
  | false =>
   have hem:(!ym.toList.isEmpty)=true:=by simp[he]
   have hne:=h_185;have HMI:=h_115;go_wp2_with fail;refine(KM.out _).mono ?_;rintro e w3 ⟨rfl,g3⟩;have HG3:=uZ (HG2.out.trans g3);have HW3:=uZ (HW2.out.trans g3);clear g3 m4;dsimp only
   cases q4 with
   | false =>
    exact c_91
   | true =>
   have HY5:=h_42;have HN5:=h_70;go_wp2;go_loopg [6] 0 (fun gg s6 wr=>∃ k:Nat,k≤0∧0-k≤gg∧s6=.int .i64 k∧Aside (aA ((w.alloc (.cells [rv,.slice (some ⟨b,off,none⟩) l.length c].toArray 43)).alloc (.cells [.int .i64 yi,.int .i64 yp,.int .i64 yl,.string yt,.string ym].toArray 64)) wr)∧Aside (∀ j (h:j<l.length),j<k→(l[j].mark.toList == ym.toList)=false))
   case atStart=>exact⟨0,by omega,by omega,rfl,(show Aside _ from HG3.out),(show Aside _ from fun j h h2=>absurd h2 (Nat.not_lt_zero _))⟩
   case round =>
    obtain⟨k,hk,hgk,rfl,BW,-⟩:=hrel;obtain rfl:k=0:=by omega
    have H5:RowKit.Hid (q5=false):=by
     show q5=false;rw[← Bool.not_eq_true];intro h;obtain⟨j,hj,hji,he⟩:=HUM.out.1 h;omega
    have Hy:=uZ (HY5.out H5.out);go_wp2;go_ret;exact bM.yes Hy.out (HGB.out.trans BW.out)
 ·have hkz:(0:Int)<(i:Int):=by omega
  have hki:(0:Int)≤(i:Int)-1:=by omega
  have hki3:(1:Int)≤(i:Int):=by omega
  have hki2:(i:Int)-1<(l.length:Int):=by omega
  have hkt:((i:Int)-1).toNat=i-1:=by omega
  have hz':decide (yi≤z)=false:=by simp;omega
  have d0:=h_33;clear hcz hz;go_enter Tryz.func201,Tryz.ntmps201;go_wp2_with fail;refine(KL.out _).mono ?_;rintro e w1 ⟨rfl,rfl⟩;dsimp only;have hwr:=h_141;go_wp2;go_quiet (fail);clear hwr d0;go_wp2_with fail;refine(KN.out _).mono ?_;rintro e w2 ⟨rfl,g2⟩;have HG2:=uZ ((aA.drewN (uX _) _).trans g2);have HW2:=uZ ((aA.drewN HGB.out _).trans g2);have m4:=cZ HG2.out 4 _ rfl;clear g2;dsimp only
  cases q3 with
  | false =>
   exact e_17
  | true =>
  cases he:ym.toList.isEmpty with
  | true =>
   have Hy:=h_54;have hee:ym.toList=[]:=List.isEmpty_iff.1 he;go_wp2;go_loopg [6] i (fun gg s6 wr=>∃ k:Nat,k≤i∧i-k≤gg∧s6=.int .i64 k∧Aside (aA ((w.alloc (.cells [rv,.slice (some ⟨b,off,none⟩) l.length c].toArray 43)).alloc (.cells [.int .i64 yi,.int .i64 yp,.int .i64 yl,.string yt,.string ym].toArray 64)) wr))
   case atStart=>exact⟨0,by omega,by omega,rfl,(show Aside _ from HG2.out)⟩
   case round =>
    obtain⟨k,hk,hgk,rfl,BW⟩:=hrel;have m4:=cZ BW.out 4 _ rfl;by_cases hlt:k<i
    ·have hltz:(k:Int)<(i:Int):=by omega
     go_wp2;go_quiet (fail);clear m4;go_wp2;go_roundg (i-(k+1))
     case measure=>omega
     case rel=>exact⟨k+1,by omega,by omega,by go_num,(show Aside _ from BW.out.drewN _)⟩
    ·have hltz:¬ (k:Int)<(i:Int):=by omega
     clear m4;go_wp2;go_ret;exact bM.yes Hy.out (HGB.out.trans BW.out)
  | false =>
   have hem:(!ym.toList.isEmpty)=true:=by simp[he]
   have hne:=h_185;have HMI:=h_115;go_wp2_with fail;refine(KM.out _).mono ?_;rintro e w3 ⟨rfl,g3⟩;have HG3:=uZ (HG2.out.trans g3);have HW3:=uZ (HW2.out.trans g3);clear g3 m4;dsimp only
   cases q4 with
   | false =>
    exact c_91
   | true =>
   have HY5:=h_42;have HN5:=h_70;go_wp2;go_loopg [6] i (fun gg s6 wr=>∃ k:Nat,k≤i∧i-k≤gg∧s6=.int .i64 k∧Aside (aA ((w.alloc (.cells [rv,.slice (some ⟨b,off,none⟩) l.length c].toArray 43)).alloc (.cells [.int .i64 yi,.int .i64 yp,.int .i64 yl,.string yt,.string ym].toArray 64)) wr)∧Aside (∀ j (h:j<l.length),j<k→(l[j].mark.toList == ym.toList)=false))
   case atStart=>exact⟨0,by omega,by omega,rfl,(show Aside _ from HG3.out),(show Aside _ from fun j h h2=>absurd h2 (Nat.not_lt_zero _))⟩
   case round =>
    obtain⟨k,hk,hgk,rfl,BW,M⟩:=hrel;have m4:=cZ BW.out 4 _ rfl;have t1:=bV BW.out 1 _ rfl;have GW:=uZ (HGB.out.trans BW.out);by_cases hlt:k<i
    ·have hltz:(k:Int)<(i:Int):=by omega
     have hkl:k<l.length:=by omega
     have hklz:=h_208;have hk0:=h_216;have d4:=HMC.out k hkl _ GW.out;have HH:RowKit.Hid ((l[k].mark.toList == ym.toList)=true→q5=true):=fun h=>HUM.out.2 ⟨k,hkl,hlt,h⟩
     have HN:RowKit.Hid ((l[k].mark.toList == ym.toList)=false→∀ j (h:j<l.length),j<k+1→(l[j].mark.toList == ym.toList)=false):=fun h j hj h2=>by
      exact c_120
     generalize l[k].mark=mk at d4 HH HN
     cases hb:(mk.toList == ym.toList) with
     | true =>
      have Hn:=uZ (HN5.out (HH.out hb));clear HH HN M;go_wp2;go_quiet (fail);clear m4 t1 d4;go_wp2;go_ret;exact bM.no 19 b_52 Hn.out (GW.out.drewN _)
     | false =>
      have Hy:=uZ (HN.out hb);clear HH HN M;go_wp2;go_quiet (fail);clear m4 t1 d4;go_wp2;go_roundg (i-(k+1))
      case measure=>omega
      case rel=>exact⟨k+1,by omega,by omega,by go_num,(show Aside _ from BW.out.drewN _),(show Aside _ from Hy.out)⟩
    ·have hltz:¬ (k:Int)<(i:Int):=by omega
     have H5:RowKit.Hid (q5=false):=by
      show q5=false;rw[← Bool.not_eq_true];intro h;obtain⟨j,hj,hji,he⟩:=HUM.out.1 h;rw[M.out j hj b_53] at he;cases he
     have Hy:=uZ (HY5.out H5.out);clear m4 t1 M;go_wp2;go_ret;exact bM.yes Hy.out GW.out
end Go.Proofs.YtdochkemaiokfaaGreat