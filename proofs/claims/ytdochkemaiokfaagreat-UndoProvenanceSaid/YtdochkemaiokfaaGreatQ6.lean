/- Lemmas on what the functions of the program and of the library compute: T6X. The conditions stand at each. -/
import Derived.Test.YtdochkemaiokfaaGreatQ5
import Derived.Test.YtdochkemaiokfaaGreatQ3
/- tree.Check, walked, and said more closely. The conditions: the library's own variables hold what they must; the lists are short. -/
namespace Go.Proofs.YtdochkemaiokfaaGreat
open Go.RowKit
def SoundT (t:Tr):Prop:=t.brs.length≤256∧(∀ i (h:i<t.brs.length),BrAlone t.brs i h)∧(∀ i (h:i<t.brs.length),BrPlaced t.brs t.brs[i])∧(∀ i (h:i<t.brs.length),sortI t.brs[i].kids=kidsOf t.brs t.brs[i].id) ∧
 sortI t.roots=kidsOf t.brs 0∧∀ i (h:i<t.brs.length),(deep t.brs t.brs.length t.brs[i]).isSome=true
def RetChk (P S:Prop) (w:World) (e:Ending) (w':World):Prop:=∃ i n:Int,e=.returned (.tuple #[.int .i64 i,.int .i64 n])∧(n=0↔P)∧(n=0→i=-1)∧(S→n=0∨n=15)∧Grew w w'
theorem RetChk.no {P S:Prop} {w w':World} (i n:Int) (hn:n≠0) (h:¬ P) (hs:S→n=0∨n=15) (hg:Grew w w'):RetChk P S w (.returned (.tuple #[.int .i64 i,.int .i64 n])) w':=⟨i,n,rfl,⟨fun e=>absurd e hn,fun e=>absurd e h⟩,fun e=>absurd e hn,hs,hg⟩
theorem RetChk.yes {P S:Prop} {w w':World} (h:P) (hg:Grew w w'):RetChk P S w (.returned (.tuple #[.int .i64 (-1),.int .i64 0])) w':=⟨-1,0,rfl,⟨fun _=>h,fun _=>rfl⟩,fun _=>rfl,fun _=>.inl rfl,hg⟩
set_option maxRecDepth 100000 in
set_option maxHeartbeats 8000000 in
theorem tCheckX (rs:List Int) (l:List Br) (rv bv:Value) (w:World) (hE:Env w) (hr:SlI w rv rs) (hv:SlBr w bv l) (hf:FewBr l) (hrl:rs.length≤1000000) :
  Calls Tryz.prog 143 #[.agg #[rv,bv]] w (RetChk (RightT ⟨rs,l⟩) (SoundT ⟨rs,l⟩) w):=by
 have HV:=Lib.hid hv
 have HE:=Lib.hid hE
 have HRR:=Lib.hid hr
 have HF:=Lib.hid hf
 obtain⟨A,c,rfl,hlc,hc,-⟩:=hv.open_
 unfold maxLen at hc
 clear hv hE
 obtain⟨Ar,cr,hrv,-,-,-⟩:=hr.open_
 clear hr hf
 by_cases h256:256<l.length
 ·have hb:(256:Int)<(l.length:Int):=by omega
  have HnS:RowKit.Hid (¬ SoundT ⟨rs,l⟩):=fun h=>by have:=h.1;dsimp only at this;omega
  have Hn:RowKit.Hid (¬ RightT ⟨rs,l⟩):=fun h=>by have:=h.1;dsimp only at this;omega
  go_enter Tryz.func143,Tryz.ntmps143
  go_wp2
  go_ret2
  exact RetChk.no _ 8 (by decide) Hn.out (fun h=>absurd h HnS.out) ((Grew.refl w).alloc _)
 have hb:¬ (256:Int)<(l.length:Int):=by omega
 have HD:RowKit.Hid (RightT ⟨rs,l⟩↔(∀ i (h:i<l.length),BrAlone l i h)∧(∀ i (h:i<l.length),BrPlaced l l[i])∧(∀ i (h:i<l.length),sortI l[i].kids=kidsOf l l[i].id)∧sortI rs=kidsOf l 0∧∀ i (h:i<l.length),BrDeep l l[i]):=⟨fun h=>h.2,fun h=>⟨by show l.length≤256;omega,h⟩⟩
 have HDS:RowKit.Hid (SoundT ⟨rs,l⟩→(∀ i (h:i<l.length),BrAlone l i h)∧(∀ i (h:i<l.length),BrPlaced l l[i])∧(∀ i (h:i<l.length),sortI l[i].kids=kidsOf l l[i].id)∧sortI rs=kidsOf l 0∧∀ i (h:i<l.length),(deep l l.length l[i]).isSome=true):=fun h=>h.2
 generalize RightT ⟨rs,l⟩=PR at HD ⊢
 generalize SoundT ⟨rs,l⟩=PS at HDS ⊢
 have K1:=Lib.hid (fun i hi W (hW:Grew w W)=>(tAlone l i hi rv (.slice A l.length c) W (HE.out.mono hW) (HV.out.mono hW)).mono fun _ _ h=>RetIff.s h)
 have K2:=Lib.hid (fun i hi W (hW:Grew w W)=>(tPlaced l i hi rv (.slice A l.length c) W (HV.out.mono hW)).mono fun _ _ h=>RetIff.s h)
 have K3:=Lib.hid (fun i hi W (hW:Grew w W)=>(tKids l i hi rv (.slice A l.length c) W (HV.out.mono hW) HF.out).mono fun _ _ h=>RetIff.s h)
 have KJ:=Lib.hid (fun W (hW:Grew w W)=>tJust l 0 rs rv (.slice A l.length c) rv W (HV.out.mono hW) (HRR.out.mono hW) HF.out.1 hrl)
 have KD:=Lib.hid (fun(hP:∀ i (h:i<l.length),BrPlaced l l[i]) i hi W (hW:Grew w W)=>tDepthX l i hi rv (.slice A l.length c) W (HV.out.mono hW) HF.out.1 hP)
 clear HV HE HRR HF
 subst hrv
 go_enter Tryz.func143,Tryz.ntmps143
 go_wp2
 refine wp_loop_rounds 5 ?_
 rw[rounds_succ]
 go_wp2
 have HG0:=Lib.hid (show Grew w ((w.alloc (.cells [.slice Ar rs.length cr,.slice A l.length c].toArray 43)).alloc (.cells [.func (.func 198) #[] #[],.func (.func 199) #[] #[],.func (.func 196) #[] #[],.func (.func 200) #[] #[]].toArray 190)) from((Grew.refl w).alloc _).alloc _)
 have HBA:=Lib.hid (Grew.refl ((w.alloc (.cells [.slice Ar rs.length cr,.slice A l.length c].toArray 43)).alloc (.cells [.func (.func 198) #[] #[],.func (.func 199) #[] #[],.func (.func 196) #[] #[],.func (.func 200) #[] #[]].toArray 190)))
 go_loopg [33] l.length (fun gg s33 wr=>∃ k:Nat,k≤l.length∧l.length-k≤gg∧s33=.int .i64 k∧Aside (Grew ((w.alloc (.cells [.slice Ar rs.length cr,.slice A l.length c].toArray 43)).alloc (.cells [.func (.func 198) #[] #[],.func (.func 199) #[] #[],.func (.func 196) #[] #[],.func (.func 200) #[] #[]].toArray 190)) wr)∧Aside (∀ i (h:i<l.length),i<k→BrAlone l i h))
 case atStart=>exact⟨0,by omega,by omega,rfl,(show Aside _ from Grew.refl _),(show Aside _ from fun i h h2=>by omega)⟩
 case round =>
  obtain⟨k,hk,hgk,rfl,BW,M⟩:=hrel
  have b0:=tree_cell (HBA.out.trans BW.out) 0 _ rfl
  have b1:=tree_cell (HBA.out.trans BW.out) 1 _ rfl
  by_cases hlt:k<l.length
  ·have hltz:(k:Int)<(l.length:Int):=by omega
   have HSK:RowKit.Hid (PS→(BrAlone l k hlt)):=fun s=>(HDS.out s).1 k hlt
   have HN:RowKit.Hid (¬ (BrAlone l k hlt)→¬ PR):=fun h h2=>h ((HD.out.1 h2).1 k hlt)
   have HY:RowKit.Hid ((BrAlone l k hlt)→∀ i (h:i<l.length),i<k+1→BrAlone l i h):=fun h i hi h2=>by
    by_cases e:i=k
    ·subst e;exact h
    ·exact M.out i hi (by omega)
   have KK:=Lib.hid (K1.out k hlt _ (HG0.out.trans (HBA.out.trans BW.out)))
   generalize (BrAlone l k hlt)=PK at HN HY KK HSK
   go_wp2_with fail
   refine KK.out.mono ?_
   rintro e w1 ⟨n,rfl,hnn,hss,g1⟩
   have HNN:=Lib.hid hnn;have H15:=Lib.hid hss;clear hss
   have HG1:=Lib.hid g1
   clear hnn g1
   dsimp only
   by_cases hz:n=0
   ·subst hz
    have Hy:=Lib.hid (HY.out (HNN.out.1 rfl))
    go_wp2
    go_roundg (l.length-(k+1))
    case measure=>omega
    case rel=>exact⟨k+1,by omega,by omega,by go_num,(show Aside _ from BW.out.trans HG1.out),(show Aside _ from Hy.out)⟩
   ·have hz':(n != 0)=true:=by simpa using hz
    have Hz:=Lib.hid hz
    have Hn:RowKit.Hid (¬ PR):=HN.out (fun h=>Hz.out (HNN.out.2 h))
    clear hz
    go_wp2
    go_ret2
    exact RetChk.no _ n Hz.out Hn.out (fun s=>H15.out (HSK.out s)) ((HG0.out.trans (HBA.out.trans BW.out)).trans HG1.out)
  have hltz:¬ (k:Int)<(l.length:Int):=by omega
  have HALL1:=Lib.hid (fun i h=>M.out i h (by omega))
  have HB1:=Lib.hid (HBA.out.trans BW.out)
  have fn1:=newer_cell HB1.out 1 _ rfl
  obtain⟨wr1,rfl⟩:∃ wr1:World,wr1=wr:=⟨_,rfl⟩
  clear M BW
  go_wp2
  rw[rounds_succ]
  go_wp2
  go_loopg [33] l.length (fun gg s33 wr=>∃ k:Nat,k≤l.length∧l.length-k≤gg∧s33=.int .i64 k∧Aside (Grew wr1 wr)∧Aside (∀ i (h:i<l.length),i<k→BrPlaced l l[i]))
  case atStart=>exact⟨0,by omega,by omega,rfl,(show Aside _ from Grew.refl _),(show Aside _ from fun i h h2=>by omega)⟩
  case round =>
   obtain⟨k,hk,hgk,rfl,BW,M⟩:=hrel
   have b0:=tree_cell (HB1.out.trans BW.out) 0 _ rfl
   have b1:=tree_cell (HB1.out.trans BW.out) 1 _ rfl
   by_cases hlt:k<l.length
   ·have hltz:(k:Int)<(l.length:Int):=by omega
    have HSK:RowKit.Hid (PS→(BrPlaced l l[k])):=fun s=>(HDS.out s).2.1 k hlt
    have HN:RowKit.Hid (¬ (BrPlaced l l[k])→¬ PR):=fun h h2=>h ((HD.out.1 h2).2.1 k hlt)
    have HY:RowKit.Hid ((BrPlaced l l[k])→∀ i (h:i<l.length),i<k+1→BrPlaced l l[i]):=fun h i hi h2=>by
     by_cases e:i=k
     ·subst e;exact h
     ·exact M.out i hi (by omega)
    have KK:=Lib.hid (K2.out k hlt _ (HG0.out.trans (HB1.out.trans BW.out)))
    generalize (BrPlaced l l[k])=PK at HN HY KK HSK
    go_wp2_with fail
    refine KK.out.mono ?_
    rintro e w1 ⟨n,rfl,hnn,hss,g1⟩
    have HNN:=Lib.hid hnn;have H15:=Lib.hid hss;clear hss
    have HG1:=Lib.hid g1
    clear hnn g1
    dsimp only
    by_cases hz:n=0
    ·subst hz
     have Hy:=Lib.hid (HY.out (HNN.out.1 rfl))
     go_wp2
     go_roundg (l.length-(k+1))
     case measure=>omega
     case rel=>exact⟨k+1,by omega,by omega,by go_num,(show Aside _ from BW.out.trans HG1.out),(show Aside _ from Hy.out)⟩
    ·have hz':(n != 0)=true:=by simpa using hz
     have Hz:=Lib.hid hz
     have Hn:RowKit.Hid (¬ PR):=HN.out (fun h=>Hz.out (HNN.out.2 h))
     clear hz
     go_wp2
     go_ret2
     exact RetChk.no _ n Hz.out Hn.out (fun s=>H15.out (HSK.out s)) ((HG0.out.trans (HB1.out.trans BW.out)).trans HG1.out)
   have hltz:¬ (k:Int)<(l.length:Int):=by omega
   have HALL2:=Lib.hid (fun i h=>M.out i h (by omega))
   have HB2:=Lib.hid (HB1.out.trans BW.out)
   have fn2:=newer_cell HB2.out 2 _ rfl
   obtain⟨wr2,rfl⟩:∃ wr2:World,wr2=wr:=⟨_,rfl⟩
   clear M BW
   go_wp2
   rw[rounds_succ]
   go_wp2
   go_loopg [33] l.length (fun gg s33 wr=>∃ k:Nat,k≤l.length∧l.length-k≤gg∧s33=.int .i64 k∧Aside (Grew wr2 wr)∧Aside (∀ i (h:i<l.length),i<k→sortI l[i].kids=kidsOf l l[i].id))
   case atStart=>exact⟨0,by omega,by omega,rfl,(show Aside _ from Grew.refl _),(show Aside _ from fun i h h2=>by omega)⟩
   case round =>
    obtain⟨k,hk,hgk,rfl,BW,M⟩:=hrel
    have b0:=tree_cell (HB2.out.trans BW.out) 0 _ rfl
    have b1:=tree_cell (HB2.out.trans BW.out) 1 _ rfl
    by_cases hlt:k<l.length
    ·have hltz:(k:Int)<(l.length:Int):=by omega
     have HSK:RowKit.Hid (PS→(sortI l[k].kids=kidsOf l l[k].id)):=fun s=>(HDS.out s).2.2.1 k hlt
     have HN:RowKit.Hid (¬ (sortI l[k].kids=kidsOf l l[k].id)→¬ PR):=fun h h2=>h ((HD.out.1 h2).2.2.1 k hlt)
     have HY:RowKit.Hid ((sortI l[k].kids=kidsOf l l[k].id)→∀ i (h:i<l.length),i<k+1→sortI l[i].kids=kidsOf l l[i].id):=fun h i hi h2=>by
      by_cases e:i=k
      ·subst e;exact h
      ·exact M.out i hi (by omega)
     have KK:=Lib.hid (K3.out k hlt _ (HG0.out.trans (HB2.out.trans BW.out)))
     generalize (sortI l[k].kids=kidsOf l l[k].id)=PK at HN HY KK HSK
     go_wp2_with fail
     refine KK.out.mono ?_
     rintro e w1 ⟨n,rfl,hnn,hss,g1⟩
     have HNN:=Lib.hid hnn;have H15:=Lib.hid hss;clear hss
     have HG1:=Lib.hid g1
     clear hnn g1
     dsimp only
     by_cases hz:n=0
     ·subst hz
      have Hy:=Lib.hid (HY.out (HNN.out.1 rfl))
      go_wp2
      go_roundg (l.length-(k+1))
      case measure=>omega
      case rel=>exact⟨k+1,by omega,by omega,by go_num,(show Aside _ from BW.out.trans HG1.out),(show Aside _ from Hy.out)⟩
     ·have hz':(n != 0)=true:=by simpa using hz
      have Hz:=Lib.hid hz
      have Hn:RowKit.Hid (¬ PR):=HN.out (fun h=>Hz.out (HNN.out.2 h))
      clear hz
      go_wp2
      go_ret2
      exact RetChk.no _ n Hz.out Hn.out (fun s=>H15.out (HSK.out s)) ((HG0.out.trans (HB2.out.trans BW.out)).trans HG1.out)
    have hltz:¬ (k:Int)<(l.length:Int):=by omega
    have HALL3:=Lib.hid (fun i h=>M.out i h (by omega))
    have HB3:=Lib.hid (HB2.out.trans BW.out)
    have fn3:=newer_cell HB3.out 3 _ rfl
    obtain⟨wr3,rfl⟩:∃ wr3:World,wr3=wr:=⟨_,rfl⟩
    clear M BW
    go_wp2
    rw[rounds_succ]
    have kj:=KJ.out wr3 (HG0.out.trans HB3.out)
    have K4:=Lib.hid (KD.out HALL2.out)
    by_cases hS:sortI rs=kidsOf l 0
    case neg =>
     rw[decide_eq_false hS] at kj
     have KJ2:=Lib.hid kj
     have Hn:RowKit.Hid (¬ PR):=fun h=>hS (HD.out.1 h).2.2.2.1
     have HnS:RowKit.Hid (¬ PS):=fun h=>hS (HDS.out h).2.2.2.1
     clear kj hS
     go_wp2_with fail
     refine KJ2.out.mono ?_
     rintro e w1 ⟨rfl,g1⟩
     dsimp only
     go_wp2
     go_ret2
     exact RetChk.no _ 10 (by decide) Hn.out (fun s=>absurd s HnS.out) ((HG0.out.trans HB3.out).trans g1)
    rw[decide_eq_true hS] at kj
    have KJ2:=Lib.hid kj
    have HSS:=Lib.hid hS
    clear kj hS
    go_wp2_with fail
    refine KJ2.out.mono ?_
    rintro e w4 ⟨rfl,g4⟩
    have HB4:=Lib.hid (HB3.out.trans g4)
    have q0:=tree_cell HB4.out 0 _ rfl
    have q1:=tree_cell HB4.out 1 _ rfl
    clear g4
    dsimp only
    go_wp2
    go_loopg [33] l.length (fun gg s33 wr=>∃ k:Nat,k≤l.length∧l.length-k≤gg∧s33=.int .i64 k∧Aside (Grew w4 wr)∧Aside (∀ i (h:i<l.length),i<k→BrDeep l l[i]))
    case atStart=>exact⟨0,by omega,by omega,rfl,(show Aside _ from Grew.refl _),(show Aside _ from fun i h h2=>by omega)⟩
    case round =>
     obtain⟨k,hk,hgk,rfl,BW,M⟩:=hrel
     have b0:=tree_cell (HB4.out.trans BW.out) 0 _ rfl
     have b1:=tree_cell (HB4.out.trans BW.out) 1 _ rfl
     by_cases hlt:k<l.length
     ·have hltz:(k:Int)<(l.length:Int):=by omega
      have HSK:RowKit.Hid (PS→((deep l l.length l[k]).isSome=true)):=fun s=>(HDS.out s).2.2.2.2 k hlt
      have HN:RowKit.Hid (¬ (BrDeep l l[k])→¬ PR):=fun h h2=>h ((HD.out.1 h2).2.2.2.2 k hlt)
      have HY:RowKit.Hid ((BrDeep l l[k])→∀ i (h:i<l.length),i<k+1→BrDeep l l[i]):=fun h i hi h2=>by
       by_cases e:i=k
       ·subst e;exact h
       ·exact M.out i hi (by omega)
      have KK:=Lib.hid (K4.out k hlt _ (HG0.out.trans (HB4.out.trans BW.out)))
      generalize ((deep l l.length l[k]).isSome=true)=SK at HSK KK
      generalize (BrDeep l l[k])=PK at HN HY KK
      go_wp2_with fail
      refine KK.out.mono ?_
      rintro e w1 ⟨n,rfl,hnn,hss,g1⟩
      have HNN:=Lib.hid hnn;have H15:=Lib.hid hss;clear hss
      have HG1:=Lib.hid g1
      clear hnn g1
      dsimp only
      by_cases hz:n=0
      ·subst hz
       have Hy:=Lib.hid (HY.out (HNN.out.1 rfl))
       go_wp2
       go_roundg (l.length-(k+1))
       case measure=>omega
       case rel=>exact⟨k+1,by omega,by omega,by go_num,(show Aside _ from BW.out.trans HG1.out),(show Aside _ from Hy.out)⟩
      ·have hz':(n != 0)=true:=by simpa using hz
       have Hz:=Lib.hid hz
       have Hn:RowKit.Hid (¬ PR):=HN.out (fun h=>Hz.out (HNN.out.2 h))
       clear hz
       go_wp2
       go_ret2
       exact RetChk.no _ n Hz.out Hn.out (fun s=>H15.out (HSK.out s)) ((HG0.out.trans (HB4.out.trans BW.out)).trans HG1.out)
     have hltz:¬ (k:Int)<(l.length:Int):=by omega
     have HALL4:=Lib.hid (fun i h=>M.out i h (by omega))
     have Hy:RowKit.Hid PR:=HD.out.2 ⟨HALL1.out,HALL2.out,HALL3.out,HSS.out,HALL4.out⟩
     have HWE:=Lib.hid (HG0.out.trans (HB4.out.trans BW.out))
     go_wp2
     rw[rounds_succ]
     go_wp2
     go_ret2
     exact RetChk.yes Hy.out HWE.out
end Go.Proofs.YtdochkemaiokfaaGreat