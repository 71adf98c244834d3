/- Lemmas on what the functions of the program and of the library compute: T6X. The conditions stand at each. -/
import Derived.Test.YtdochkemaiokfaaGreatQ5
import Derived.Test.YtdochkemaiokfaaGreatQ3
set_option maxHeartbeats 16000000
set_option maxRecDepth 100000
set_option linter.all false
namespace Go.Proofs.YtdochkemaiokfaaGreat
open Go.RowKit
def aBi (t:Tr):Prop:=t.brs.length≤256∧(∀ i (h:i<t.brs.length),cB t.brs i h)∧(∀ i (h:i<t.brs.length),aX t.brs t.brs[i])∧(∀ i (h:i<t.brs.length),sortI t.brs[i].kids=bH t.brs t.brs[i].id) ∧
 sortI t.roots=bH t.brs 0∧∀ i (h:i<t.brs.length),(dJ t.brs t.brs.length t.brs[i]).isSome=true
def lK (P S:Prop) (w:World) (e:Ending) (w':World):Prop:=∃ i n:Int,e=.returned (.tuple #[.int .i64 i,.int .i64 n])∧(n=0↔P)∧(n=0→i=-1)∧(S→n=0∨n=15)∧aA w w'
theorem lK.no {P S:Prop} {w w':World} (i n:Int) (hn:n≠0) (h:¬ P) (hs:S→n=0∨n=15) (hg:aA w w'):lK P S w (.returned (.tuple #[.int .i64 i,.int .i64 n])) w':=⟨i,n,rfl,⟨fun e=>absurd e hn,fun e=>absurd e h⟩,fun e=>absurd e hn,hs,hg⟩
theorem lK.yes {P S:Prop} {w w':World} (h:P) (hg:aA w w'):lK P S w (.returned (.tuple #[.int .i64 (-1),.int .i64 0])) w':=⟨-1,0,rfl,⟨fun _=>h,fun _=>rfl⟩,fun _=>rfl,fun _=>.inl rfl,hg⟩
theorem aUl (rs:List Int) (l:List Br) (rv bv:Value) (w:World) (hE:Env w) (hr:SlI w rv rs) (hv:bQ w bv l) (hf:cF l) (hrl:rs.length≤1000000) :
  Calls Tryz.prog 143 #[.agg #[rv,bv]] w (lK (aM ⟨rs,l⟩) (aBi ⟨rs,l⟩) w):=by
 have HV:=uZ hv;have HE:=uZ hE;have HRR:=uZ hr;have HF:=uZ hf;obtain⟨A,c,rfl,hlc,hc,-⟩:=hv.open_;unfold maxLen at hc;clear hv hE;obtain⟨Ar,cr,hrv,-,-,-⟩:=hr.open_;clear hr hf;by_cases h256:256<l.length
 ·have hb:(256:Int)<(l.length:Int):=by omega
  have HnS:RowKit.Hid (¬ aBi ⟨rs,l⟩):=fun h=>by have:=h.1;dsimp only at this;omega
  have Hn:RowKit.Hid (¬ aM ⟨rs,l⟩):=fun h=>by have:=h.1;dsimp only at this;omega
  go_enter Tryz.func143,Tryz.ntmps143;go_wp2;go_ret2;exact lK.no _ 8 b_52 Hn.out (fun h=>absurd h HnS.out) ((uX w).alloc _)
 have hb:=h_193;have HD:=h_11;have HDS:RowKit.Hid (aBi ⟨rs,l⟩→(∀ i (h:i<l.length),cB l i h)∧(∀ i (h:i<l.length),aX l l[i])∧(∀ i (h:i<l.length),sortI l[i].kids=bH l l[i].id)∧sortI rs=bH l 0∧∀ i (h:i<l.length),(dJ l l.length l[i]).isSome=true):=fun h=>h.2
 generalize aM ⟨rs,l⟩=PR at HD ⊢;generalize aBi ⟨rs,l⟩=PS at HDS ⊢;have K1:=uZ (fun i hi W (hW:aA w W)=>(aSy l i hi rv (.slice A l.length c) W (HE.out.mono hW) (HV.out.mono hW)).mono fun _ _ h=>bM.s h);have K2:=uZ (fun i hi W (hW:aA w W)=>(aJm l i hi rv (.slice A l.length c) W (HV.out.mono hW)).mono fun _ _ h=>bM.s h);have K3:=uZ (fun i hi W (hW:aA w W)=>(aYa l i hi rv (.slice A l.length c) W (HV.out.mono hW) HF.out).mono fun _ _ h=>bM.s h);have KJ:=h_83;have KD:=uZ (fun(hP:∀ i (h:i<l.length),aX l l[i]) i hi W (hW:aA w W)=>aUk l i hi rv (.slice A l.length c) W (HV.out.mono hW) HF.out.1 hP);clear HV HE HRR HF;subst hrv;go_enter Tryz.func143,Tryz.ntmps143;go_wp2;refine wp_loop_rounds 5 ?_;rw[rounds_succ];go_wp2;have HG0:=h_13;have HBA:=h_16;go_loopg [33] l.length (fun gg s33 wr=>∃ k:Nat,k≤l.length∧l.length-k≤gg∧s33=.int .i64 k∧Aside (aA ((w.alloc (.cells [.slice Ar rs.length cr,.slice A l.length c].toArray 43)).alloc (.cells [.func (.func 198) #[] #[],.func (.func 199) #[] #[],.func (.func 196) #[] #[],.func (.func 200) #[] #[]].toArray 190)) wr)∧Aside (∀ i (h:i<l.length),i<k→cB l i h))
 case atStart=>exact⟨0,by omega,by omega,rfl,(show Aside _ from uX _),(show Aside _ from fun i h h2=>by omega)⟩
 case round =>
  obtain⟨k,hk,hgk,rfl,BW,M⟩:=hrel;have b0:=bV (HBA.out.trans BW.out) 0 _ rfl;have b1:=bV (HBA.out.trans BW.out) 1 _ rfl;by_cases hlt:k<l.length
  ·have hltz:(k:Int)<(l.length:Int):=by omega
   have HSK:RowKit.Hid (PS→(cB l k hlt)):=fun s=>(HDS.out s).1 k hlt
   have HN:RowKit.Hid (¬ (cB l k hlt)→¬ PR):=fun h h2=>h ((HD.out.1 h2).1 k hlt)
   have HY:=h_96;have KK:=uZ (K1.out k hlt _ (HG0.out.trans (HBA.out.trans BW.out)));generalize (cB l k hlt)=PK at HN HY KK HSK;go_wp2_with fail;refine KK.out.mono ?_;rintro e w1 ⟨n,rfl,hnn,hss,g1⟩;have HNN:=uZ hnn;have H15:=uZ hss;clear hss;have HG1:=uZ g1;clear hnn g1;dsimp only;by_cases hz:n=0
   ·subst hz
    exact c_60
   ·have hz':(n != 0)=true:=by simpa using hz
    have Hz:=uZ hz;have Hn:=h_169;clear hz;go_wp2;go_ret2;exact lK.no _ n Hz.out Hn.out (fun s=>H15.out (HSK.out s)) ((HG0.out.trans (HBA.out.trans BW.out)).trans HG1.out)
  have hltz:=h_198;have HALL1:=h_213;have HB1:=uZ (HBA.out.trans BW.out);have fn1:=cZ HB1.out 1 _ rfl;obtain⟨wr1,rfl⟩:∃ wr1:World,wr1=wr:=⟨_,rfl⟩
  clear M BW;go_wp2;rw[rounds_succ];go_wp2;go_loopg [33] l.length (fun gg s33 wr=>∃ k:Nat,k≤l.length∧l.length-k≤gg∧s33=.int .i64 k∧Aside (aA wr1 wr)∧Aside (∀ i (h:i<l.length),i<k→aX l l[i]))
  case atStart=>exact⟨0,by omega,by omega,rfl,(show Aside _ from uX _),(show Aside _ from fun i h h2=>by omega)⟩
  case round =>
   obtain⟨k,hk,hgk,rfl,BW,M⟩:=hrel;have b0:=bV (HB1.out.trans BW.out) 0 _ rfl;have b1:=bV (HB1.out.trans BW.out) 1 _ rfl;by_cases hlt:k<l.length
   ·have hltz:(k:Int)<(l.length:Int):=by omega
    have HSK:RowKit.Hid (PS→(aX l l[k])):=fun s=>(HDS.out s).2.1 k hlt
    have HN:RowKit.Hid (¬ (aX l l[k])→¬ PR):=fun h h2=>h ((HD.out.1 h2).2.1 k hlt)
    have HY:=h_97;have KK:=uZ (K2.out k hlt _ (HG0.out.trans (HB1.out.trans BW.out)));generalize (aX l l[k])=PK at HN HY KK HSK;go_wp2_with fail;refine KK.out.mono ?_;rintro e w1 ⟨n,rfl,hnn,hss,g1⟩;have HNN:=uZ hnn;have H15:=uZ hss;clear hss;have HG1:=uZ g1;clear hnn g1;dsimp only;by_cases hz:n=0
    ·subst hz
     exact c_60
    ·have hz':(n != 0)=true:=by simpa using hz
     have Hz:=uZ hz;have Hn:=h_169;clear hz;go_wp2;go_ret2;exact lK.no _ n Hz.out Hn.out (fun s=>H15.out (HSK.out s)) ((HG0.out.trans (HB1.out.trans BW.out)).trans HG1.out)
   have hltz:=h_198;have HALL2:=h_213;have HB2:=uZ (HB1.out.trans BW.out);have fn2:=cZ HB2.out 2 _ rfl;obtain⟨wr2,rfl⟩:∃ wr2:World,wr2=wr:=⟨_,rfl⟩
   clear M BW;go_wp2;rw[rounds_succ];go_wp2;go_loopg [33] l.length (fun gg s33 wr=>∃ k:Nat,k≤l.length∧l.length-k≤gg∧s33=.int .i64 k∧Aside (aA wr2 wr)∧Aside (∀ i (h:i<l.length),i<k→sortI l[i].kids=bH l l[i].id))
   case atStart=>exact⟨0,by omega,by omega,rfl,(show Aside _ from uX _),(show Aside _ from fun i h h2=>by omega)⟩
   case round =>
    obtain⟨k,hk,hgk,rfl,BW,M⟩:=hrel;have b0:=bV (HB2.out.trans BW.out) 0 _ rfl;have b1:=bV (HB2.out.trans BW.out) 1 _ rfl;by_cases hlt:k<l.length
    ·have hltz:(k:Int)<(l.length:Int):=by omega
     have HSK:RowKit.Hid (PS→(sortI l[k].kids=bH l l[k].id)):=fun s=>(HDS.out s).2.2.1 k hlt
     have HN:=h_122;have HY:=h_47;have KK:=uZ (K3.out k hlt _ (HG0.out.trans (HB2.out.trans BW.out)));generalize (sortI l[k].kids=bH l l[k].id)=PK at HN HY KK HSK;go_wp2_with fail;refine KK.out.mono ?_;rintro e w1 ⟨n,rfl,hnn,hss,g1⟩;have HNN:=uZ hnn;have H15:=uZ hss;clear hss;have HG1:=uZ g1;clear hnn g1;dsimp only;by_cases hz:n=0
     ·subst hz
      exact c_60
     ·have hz':(n != 0)=true:=by simpa using hz
      have Hz:=uZ hz;have Hn:=h_169;clear hz;go_wp2;go_ret2;exact lK.no _ n Hz.out Hn.out (fun s=>H15.out (HSK.out s)) ((HG0.out.trans (HB2.out.trans BW.out)).trans HG1.out)
    have hltz:=h_198;have HALL3:=h_213;have HB3:=uZ (HB2.out.trans BW.out);have fn3:=cZ HB3.out 3 _ rfl;obtain⟨wr3,rfl⟩:∃ wr3:World,wr3=wr:=⟨_,rfl⟩
    clear M BW;go_wp2;rw[rounds_succ];have kj:=KJ.out wr3 (HG0.out.trans HB3.out);have K4:=uZ (KD.out HALL2.out);by_cases hS:sortI rs=bH l 0
    case neg =>
     rw[decide_eq_false hS] at kj;have KJ2:=uZ kj;have Hn:RowKit.Hid (¬ PR):=fun h=>hS (HD.out.1 h).2.2.2.1
     have HnS:RowKit.Hid (¬ PS):=fun h=>hS (HDS.out h).2.2.2.1
     clear kj hS;go_wp2_with fail;refine KJ2.out.mono ?_;rintro e w1 ⟨rfl,g1⟩;dsimp only;go_wp2;go_ret2;exact lK.no _ 10 b_52 Hn.out (fun s=>absurd s HnS.out) ((HG0.out.trans HB3.out).trans g1)
    rw[decide_eq_true hS] at kj;have KJ2:=uZ kj;have HSS:=uZ hS;clear kj hS;go_wp2_with fail;refine KJ2.out.mono ?_;rintro e w4 ⟨rfl,g4⟩;have HB4:=uZ (HB3.out.trans g4);have q0:=bV HB4.out 0 _ rfl;have q1:=bV HB4.out 1 _ rfl;clear g4;dsimp only;go_wp2;go_loopg [33] l.length (fun gg s33 wr=>∃ k:Nat,k≤l.length∧l.length-k≤gg∧s33=.int .i64 k∧Aside (aA w4 wr)∧Aside (∀ i (h:i<l.length),i<k→eD l l[i]))
    case atStart=>exact⟨0,by omega,by omega,rfl,(show Aside _ from uX _),(show Aside _ from fun i h h2=>by omega)⟩
    case round =>
     obtain⟨k,hk,hgk,rfl,BW,M⟩:=hrel;have b0:=bV (HB4.out.trans BW.out) 0 _ rfl;have b1:=bV (HB4.out.trans BW.out) 1 _ rfl;by_cases hlt:k<l.length
     ·have hltz:(k:Int)<(l.length:Int):=by omega
      have HSK:RowKit.Hid (PS→((dJ l l.length l[k]).isSome=true)):=fun s=>(HDS.out s).2.2.2.2 k hlt
      have HN:RowKit.Hid (¬ (eD l l[k])→¬ PR):=fun h h2=>h ((HD.out.1 h2).2.2.2.2 k hlt)
      have HY:=h_98;have KK:=uZ (K4.out k hlt _ (HG0.out.trans (HB4.out.trans BW.out)));generalize ((dJ l l.length l[k]).isSome=true)=SK at HSK KK;generalize (eD l l[k])=PK at HN HY KK;go_wp2_with fail;refine KK.out.mono ?_;rintro e w1 ⟨n,rfl,hnn,hss,g1⟩;have HNN:=uZ hnn;have H15:=uZ hss;clear hss;have HG1:=uZ g1;clear hnn g1;dsimp only;by_cases hz:n=0
      ·subst hz
       exact c_60
      ·have hz':(n != 0)=true:=by simpa using hz
       have Hz:=uZ hz;have Hn:=h_169;clear hz;go_wp2;go_ret2;exact lK.no _ n Hz.out Hn.out (fun s=>H15.out (HSK.out s)) ((HG0.out.trans (HB4.out.trans BW.out)).trans HG1.out)
     have hltz:=h_198;have HALL4:=h_213;have Hy:RowKit.Hid PR:=HD.out.2 ⟨HALL1.out,HALL2.out,HALL3.out,HSS.out,HALL4.out⟩;have HWE:=uZ (HG0.out.trans (HB4.out.trans BW.out));go_wp2;rw[rounds_succ];go_wp2;go_ret2;exact lK.yes Hy.out HWE.out
end Go.Proofs.YtdochkemaiokfaaGreat