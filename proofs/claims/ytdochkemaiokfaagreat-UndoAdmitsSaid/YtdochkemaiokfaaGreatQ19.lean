/- Lemmas on what the functions of the program and of the library compute: RE3. The conditions stand at each. -/
import Derived.Test.YtdochkemaiokfaaGreatQ18
import Derived.Test.YtdochkemaiokfaaGreatQ5
import Derived.Test.YtdochkemaiokfaaGreatQ3
import Derived.Deep.RegionHeld3
import Derived.Deep.DeepCutAuto
import Derived.Test.YtdochkemaiokfaaGreatQ8
import Derived.Test.YtdochkemaiokfaaGreatQ2
import Derived.Test.YtdochkemaiokfaaGreatQ4
set_option maxHeartbeats 16000000
set_option maxRecDepth 100000
set_option linter.all false
namespace Go.Proofs.YtdochkemaiokfaaGreat
open Go.RowKit
instance (l:List Br) (n p:Int):Decidable (∃ b,aE l n=some b∧b.parent=p) :=
 decidable_of_iff (((aE l n).map fun b=>decide (b.parent=p))=some true) (by cases aE l n<;>simp)
def yL (l:List Br) (ks:List Int) (p:Int) (i:Nat) (h:i<ks.length):Prop:=(∃ b,aE l ks[i]=some b∧b.parent=p)∧∀ j (hj:j<ks.length),j<i→ks[j]≠ks[i]
theorem aWc (w1 W:World) (p q r:Addr) {x y z:Value} (h:w1.cell? p=some x) (h2:w1.cell? q=some y) (h3:w1.cell? r=some z) (g:aA w1 W):W.cell? p=some x∧W.cell? q=some y∧W.cell? r=some z∧aA w1 W:=⟨uQ g h,uQ g h2,uQ g h3,g⟩
theorem aVo {l:List Br} {n p:Int}:(∃ b,aE l n=some b∧b.parent=p)↔(aE l n).isSome=true∧((aE l n).getD br0).parent=p:=by
 cases aE l n<;>simp
theorem aPo {w:World} {U:Nat} {v0 v1 v2 v3 v4 z1:Value} (h:w.cell? ⟨U,1,none⟩=some z1):(((((w.setCell ⟨U,0,none⟩ v0).setCell ⟨U,1,none⟩ v1).setCell ⟨U,2,none⟩ v2).setCell ⟨U,3,none⟩ v3).setCell ⟨U,4,none⟩ v4).cell? ⟨U,1,none⟩=some v1:=by
 rw[uV _ _ _ _ b_54,uV _ _ _ _ b_54,uV _ _ _ _ b_54];exact World.cell?_setCell_same' _ _ _ (by rw[uV _ _ _ _ b_54,h];rfl)
theorem aKm (l:List Br) (ks:List Int) (p:Int) (rv bv kv:Value) (w:World) (hv:bQ w bv l) (hk:SlI w kv ks) (hl:l.length≤1000000) (hkl:ks.length≤1000000) :
  Calls Tryz.prog 203 #[.agg #[rv,bv],kv,.int .i64 p] w (bBt (aGl l ks p) w):=by
 have HD:RowKit.Hid (aGl l ks p↔(∀ i (h:i<ks.length),yL l ks p i h)∧(bH l p).length=ks.length):=Iff.rfl;have HF:=uZ (fun n W (hW:aA w W)=>aR l n rv bv W (hv.mono hW));have HT:=uZ (yX l p);have HKL:=uZ (aFi l p);generalize aGl l ks p=PA at HD ⊢;obtain⟨A,c,rfl,hlc,hc,hr⟩:=hv.open_;obtain⟨B,d,rfl,hld,hd,hrk⟩:=hk.open_;unfold maxLen at hc hd;have HR:=uZ hr;have HRK:=uZ hrk;clear hr hrk hv hk;go_enter Tryz.func203,Tryz.ntmps203;go_wp2;go_loopg [7,8] l.length (fun gg s7 s8 wr=>∃ k:Nat,k≤l.length∧l.length-k≤gg∧s8=.int .i64 k∧s7=.int .i64 ((bH (l.take k) p).length:Nat)∧Aside (aA (w.alloc (.cells [rv,.slice A l.length c].toArray 43)) wr))
 case atStart=>exact⟨0,by omega,by omega,rfl,by simp[bH],(show Aside _ from uX _)⟩
 case round =>
  obtain⟨k,hk,hgk,rfl,rfl,BW⟩:=hrel;have GW:=h_217;have t1:=h_234;by_cases hlt:k<l.length
  ·have hltz:(k:Int)<(l.length:Int):=by omega
   have h0z:=h_216;obtain⟨b,off,rfl,hb,hcell⟩:=HR.out b_53;obtain⟨kv,-,hcl⟩:=hcell k hlt;obtain⟨-,c1,-⟩:=hcl wr GW.out;have ht:=HT.out k hlt;have hn:=HKL.out k;generalize hM:bH (l.take (k+1)) p=M at ht;have HM:=uZ hM;clear hM hcell hcl;generalize bH (l.take k) p=N at ht hn;generalize l[k]=y at c1 ht;obtain⟨yi,yp,yl,yt,ym,yk⟩:=y;dsimp only at c1 ht;have HT2:=uZ ht;clear ht;cases hb:(yp == p)
   ·have hE:M=N:=by rw[HT2.out,hb];simp
    subst hE;go_wp2;go_roundg (l.length-(k+1))
    case measure=>omega
    case rel=>exact⟨k+1,by omega,by omega,by go_num,by rw[HM.out],(show Aside _ from BW.out)⟩
   ·have hE:=uZ (show M.length=N.length+1 by rw[HT2.out,hb];simp)
    go_wp2;go_roundg (l.length-(k+1))
    case measure=>omega
    case rel=>exact⟨k+1,by omega,by omega,by go_num,by rw[HM.out,hE.out];go_num,(show Aside _ from BW.out)⟩
  have hltz:=h_198;obtain rfl:k=l.length:=by omega
  rw[List.take_length];generalize (bH l p).length=NN at HD ⊢;go_wp2;clear t1;go_loopg [9] ks.length (fun gg s9 wr=>∃ k:Nat,k≤ks.length∧ks.length-k≤gg∧s9=.int .i64 k∧Aside (aA (w.alloc (.cells [rv,.slice A l.length c].toArray 43)) wr)∧Aside (∀ j (h:j<ks.length),j<k→yL l ks p j h))
  case atStart=>exact⟨0,by omega,by omega,rfl,(show Aside _ from BW.out),(show Aside _ from fun j h h2=>absurd h2 (Nat.not_lt_zero _))⟩
  case round =>
   obtain⟨k,hk,hgk,rfl,BW,M⟩:=hrel;have GW:=h_217;by_cases hlt:k<ks.length
   case neg =>
    have hltz:¬ (k:Int)<(ks.length:Int):=by omega
    have HALL:RowKit.Hid (∀ j (h:j<ks.length),yL l ks p j h):=fun j h=>M.out j h b_53
    by_cases hN:NN=ks.length
    ·have hNz:((NN:Int) == (ks.length:Int))=true:=by simp;omega
     have Hy:=uZ (HD.out.2 ⟨HALL.out,hN⟩);clear hN M;go_wp2;go_ret;exact⟨true,rfl,⟨fun _=>Hy.out,fun _=>rfl⟩,GW.out⟩
    ·have hNz:((NN:Int) == (ks.length:Int))=false:=by simp;omega
     have Hn:RowKit.Hid (¬ PA):=fun h=>hN (HD.out.1 h).2
     clear hN M;go_wp2;go_ret;exact⟨false,rfl,⟨(fun h=>by cases h),fun h=>absurd h Hn.out⟩,GW.out⟩
   have hltz:(k:Int)<(ks.length:Int):=by omega
   have h0z:=h_216;obtain⟨b,off,rfl,hb,hcell⟩:=HRK.out b_53;have e0:=hcell wr GW.out k hlt;have a0:=yQ BW.out 0 _ rfl;have a1:=h_234;have kF:=fun W hW=>HF.out ks[k] W hW
   have HKA:RowKit.Hid (yL l ks p k hlt↔((aE l ks[k]).isSome=true∧((aE l ks[k]).getD br0).parent=p)∧∀ j (hj:j<ks.length),j<k→ks[j]≠ks[k]):=by
    show _↔_;unfold yL;rw[aVo]
   have HN:RowKit.Hid (¬ yL l ks p k hlt→¬ PA):=fun h h2=>h ((HD.out.1 h2).1 k hlt)
   have HY:RowKit.Hid (yL l ks p k hlt→∀ j (h:j<ks.length),j<k+1→yL l ks p j h):=fun h j hj h2=>by
    exact c_120
   generalize yL l ks p k hlt=KA at HKA HN HY;have HCK:=uZ hcell;generalize hx:ks[k]=x at e0 kF HKA;have HX:=uZ hx;clear hx hcell M;unfold aY at kF;generalize hO:(aE l x).isSome=os at kF HKA;generalize (aE l x).getD br0=y at kF HKA;obtain⟨yi,yp,yl,yt,ym,yk⟩:=y;dsimp only at kF HKA;have KF:=uZ kF;clear kF hO;go_wp2;have HGK:=uZ BW.out.size;have hsz:w.heap.size<wr.heap.size:=by have:=BW.out.size;simp at this;omega
   go_cut [10,11] (fun s10 s11 wc=>∃ U:Nat,s10=.pointer (some ⟨U,0,none⟩)∧s11=.bool os∧Aside (wc.cell? ⟨U,1,none⟩=some (.int .i64 yp))∧Aside (aA wr wc))
   case first =>
    as_aux_lemma =>
     go_region_held3 (fun W=>W.cell? ⟨w.heap.size,0,none⟩=some rv∧W.cell? ⟨w.heap.size,1,none⟩=some (.slice A l.length c)∧W.cell? ⟨b,off+k,none⟩=some (.int .i64 x)∧aA wr W) (refine aWc wr _ _ _ _ a0 a1 e0 (by repeat (first|exact uX wr|exact G1.out|refine uJ ?_|refine uU ?_ _|refine yZ ?_ (by simp<;>omega) _))) ((go_at_call 147;refine(KF.out _ (GW.out.trans (by repeat (first|exact uX wr|refine uJ ?_|refine uU ?_ _)))).mono ?_;rintro e w1 ⟨rfl,g1⟩;have G1:=uZ (show aA wr w1 from uY (by repeat (first|exact uX wr|refine uJ ?_|refine uU ?_ _)) g1);(try have z0:=yQ (w:=wr) (t:=64) (cs:=[.int .i64 0,.int .i64 0,.int .i64 0,.string ⟨#[]⟩,.string ⟨#[]⟩]) (uY (show aA (wr.alloc (.cells [.int .i64 0,.int .i64 0,.int .i64 0,.string ⟨#[]⟩,.string ⟨#[]⟩].toArray 64)) ((wr.alloc (.cells [.int .i64 0,.int .i64 0,.int .i64 0,.string ⟨#[]⟩,.string ⟨#[]⟩].toArray 64)).drew) from(uX _).drew) g1) 0 _ rfl);(try have z1:=yQ (w:=wr) (t:=64) (cs:=[.int .i64 0,.int .i64 0,.int .i64 0,.string ⟨#[]⟩,.string ⟨#[]⟩]) (uY (show aA (wr.alloc (.cells [.int .i64 0,.int .i64 0,.int .i64 0,.string ⟨#[]⟩,.string ⟨#[]⟩].toArray 64)) ((wr.alloc (.cells [.int .i64 0,.int .i64 0,.int .i64 0,.string ⟨#[]⟩,.string ⟨#[]⟩].toArray 64)).drew) from(uX _).drew) g1) 1 _ rfl);(try have z2:=yQ (w:=wr) (t:=64) (cs:=[.int .i64 0,.int .i64 0,.int .i64 0,.string ⟨#[]⟩,.string ⟨#[]⟩]) (uY (show aA (wr.alloc (.cells [.int .i64 0,.int .i64 0,.int .i64 0,.string ⟨#[]⟩,.string ⟨#[]⟩].toArray 64)) ((wr.alloc (.cells [.int .i64 0,.int .i64 0,.int .i64 0,.string ⟨#[]⟩,.string ⟨#[]⟩].toArray 64)).drew) from(uX _).drew) g1) 2 _ rfl);(try have z3:=yQ (w:=wr) (t:=64) (cs:=[.int .i64 0,.int .i64 0,.int .i64 0,.string ⟨#[]⟩,.string ⟨#[]⟩]) (uY (show aA (wr.alloc (.cells [.int .i64 0,.int .i64 0,.int .i64 0,.string ⟨#[]⟩,.string ⟨#[]⟩].toArray 64)) ((wr.alloc (.cells [.int .i64 0,.int .i64 0,.int .i64 0,.string ⟨#[]⟩,.string ⟨#[]⟩].toArray 64)).drew) from(uX _).drew) g1) 3 _ rfl);(try have z4:=yQ (w:=wr) (t:=64) (cs:=[.int .i64 0,.int .i64 0,.int .i64 0,.string ⟨#[]⟩,.string ⟨#[]⟩]) (uY (show aA (wr.alloc (.cells [.int .i64 0,.int .i64 0,.int .i64 0,.string ⟨#[]⟩,.string ⟨#[]⟩].toArray 64)) ((wr.alloc (.cells [.int .i64 0,.int .i64 0,.int .i64 0,.string ⟨#[]⟩,.string ⟨#[]⟩].toArray 64)).drew) from(uX _).drew) g1) 4 _ rfl);(try have f0:=(aA.frozen (p:=⟨wr.heap.size,0,none⟩) (show aA ((wr.alloc (.cells [.int .i64 0,.int .i64 0,.int .i64 0,.string ⟨#[]⟩,.string ⟨#[]⟩].toArray 64)).drew) w1 from g1) b_54).trans (show((wr.alloc (.cells [.int .i64 0,.int .i64 0,.int .i64 0,.string ⟨#[]⟩,.string ⟨#[]⟩].toArray 64)).drew).frozen? ⟨wr.heap.size,0,none⟩=false by simp));(try have f1:=(aA.frozen (p:=⟨wr.heap.size,1,none⟩) (show aA ((wr.alloc (.cells [.int .i64 0,.int .i64 0,.int .i64 0,.string ⟨#[]⟩,.string ⟨#[]⟩].toArray 64)).drew) w1 from g1) b_54).trans (show((wr.alloc (.cells [.int .i64 0,.int .i64 0,.int .i64 0,.string ⟨#[]⟩,.string ⟨#[]⟩].toArray 64)).drew).frozen? ⟨wr.heap.size,1,none⟩=false by simp));(try have f2:=(aA.frozen (p:=⟨wr.heap.size,2,none⟩) (show aA ((wr.alloc (.cells [.int .i64 0,.int .i64 0,.int .i64 0,.string ⟨#[]⟩,.string ⟨#[]⟩].toArray 64)).drew) w1 from g1) b_54).trans (show((wr.alloc (.cells [.int .i64 0,.int .i64 0,.int .i64 0,.string ⟨#[]⟩,.string ⟨#[]⟩].toArray 64)).drew).frozen? ⟨wr.heap.size,2,none⟩=false by simp));(try have f3:=(aA.frozen (p:=⟨wr.heap.size,3,none⟩) (show aA ((wr.alloc (.cells [.int .i64 0,.int .i64 0,.int .i64 0,.string ⟨#[]⟩,.string ⟨#[]⟩].toArray 64)).drew) w1 from g1) b_54).trans (show((wr.alloc (.cells [.int .i64 0,.int .i64 0,.int .i64 0,.string ⟨#[]⟩,.string ⟨#[]⟩].toArray 64)).drew).frozen? ⟨wr.heap.size,3,none⟩=false by simp));(try have f4:=(aA.frozen (p:=⟨wr.heap.size,4,none⟩) (show aA ((wr.alloc (.cells [.int .i64 0,.int .i64 0,.int .i64 0,.string ⟨#[]⟩,.string ⟨#[]⟩].toArray 64)).drew) w1 from g1) b_54).trans (show((wr.alloc (.cells [.int .i64 0,.int .i64 0,.int .i64 0,.string ⟨#[]⟩,.string ⟨#[]⟩].toArray 64)).drew).frozen? ⟨wr.heap.size,4,none⟩=false by simp));clear g1))
     all_goals go_wp2_with fail
     all_goals go_meet
     ·exact⟨_,rfl,rfl,(show Aside _ from yQ (uX _) 1 _ rfl),(show Aside _ from G1.out.alloc _)⟩
     ·exact⟨_,rfl,rfl,(show Aside _ from aPo z1),(show Aside _ from((((G1.out.setCell (Nat.le_refl _) _).setCell (Nat.le_refl _) _).setCell (Nat.le_refl _) _).setCell (Nat.le_refl _) _).setCell (Nat.le_refl _) _)⟩
   case rest =>
    as_aux_lemma =>
     obtain⟨U,rfl,rfl,hu1,GC⟩:=hcut;have u1:=hu1.out;have GWC:=uZ (GW.out.trans GC.out);have BWC:=uZ (BW.out.trans GC.out);clear a0 a1 e0 hu1 KF;cases os
     ·have Hn:=uZ (HN.out (fun h=>by have:=(HKA.out.1 h).1.1;cases this))
      clear HN HY HKA;go_wp2;go_ret;exact⟨false,rfl,⟨(fun h=>by cases h),fun h=>absurd h Hn.out⟩,GWC.out⟩
     cases hyp:(yp != p) with
     | true =>
      have Hn:=uZ (HN.out (fun h=>by have:=(HKA.out.1 h).1.2;rw[this] at hyp;simp at hyp));clear HN HY HKA;go_wp2;go_ret;exact⟨false,rfl,⟨(fun h=>by cases h),fun h=>absurd h Hn.out⟩,GWC.out⟩
     | false =>
     have HKB:RowKit.Hid (KA↔∀ j (hj:j<ks.length),j<k→ks[j]≠x):=by
      show _↔_;rw[HKA.out];exact⟨fun h=>h.2,fun h=>⟨⟨rfl,by simpa using hyp⟩,h⟩⟩
     clear HKA;go_wp2;clear u1;go_loopg [12] k (fun gg s12 wy=>∃ k2:Nat,k2≤k∧k-k2≤gg∧s12=.int .i64 k2∧Aside (aA wc wy)∧Aside (∀ j (hj:j<ks.length),j<k2→ks[j]≠x))
     case atStart=>exact⟨0,by omega,by omega,rfl,(show Aside _ from uX _),(show Aside _ from fun j h h2=>absurd h2 (Nat.not_lt_zero _))⟩
     case round =>
      obtain⟨k2,hk2,hgk2,rfl,BI,M2⟩:=hrel;have GWI:=uZ (GWC.out.trans BI.out);by_cases hlt2:k2<k
      ·have hltz2:(k2:Int)<(k:Int):=by omega
       have h0z2:(0:Int)≤(k2:Int):=by omega
       have hlk2:(k2:Int)<(ks.length:Int):=by omega
       have e1:=HCK.out wr GWI.out k2 b_53;have e2:=HCK.out wr GWI.out k hlt;rw[HX.out] at e2
       have HNX:RowKit.Hid (ks[k2]≠x→∀ j (hj:j<ks.length),j<k2+1→ks[j]≠x):=fun h j hj h2=>by
        by_cases e:j=k2
        ·subst e;exact h
        ·exact M2.out j hj b_53
       have HBX:RowKit.Hid (ks[k2]=x→¬ KA):=fun h h2=>HKB.out.1 h2 k2 b_53 hlt2 h
       generalize ks[k2]=z at e1 HNX HBX
       cases hzx:(z == x) with
       | true =>
        have Hn:=uZ (HN.out (HBX.out (by simpa using hzx)));clear HN HY HKB M2 HNX HBX;go_wp2;go_quiet (fail);clear e1 e2;go_wp2;go_ret;exact⟨false,rfl,⟨(fun h=>by cases h),fun h=>absurd h Hn.out⟩,GWI.out.drewN _⟩
       | false =>
        have Hy2:=uZ (HNX.out (by simpa using hzx));clear M2 HNX HBX;go_wp2;go_quiet (fail);clear e1 e2;go_wp2;go_roundg (k-(k2+1))
        case measure=>omega
        case rel=>exact⟨k2+1,by omega,by omega,by go_num,(show Aside _ from BI.out.drewN _),(show Aside _ from Hy2.out)⟩
      ·have hltz2:¬ (k2:Int)<(k:Int):=by omega
       have Hy:=uZ (HY.out (HKB.out.2 (fun j hj hjk=>M2.out j hj b_53)));have BWI:=uZ (BWC.out.trans BI.out);clear HN HY HKB M2;go_wp2;go_roundg (ks.length-(k+1))
       case measure=>omega
       case rel=>exact⟨k+1,by omega,by omega,by go_num,(show Aside _ from BWI.out),(show Aside _ from Hy.out)⟩
end Go.Proofs.YtdochkemaiokfaaGreat