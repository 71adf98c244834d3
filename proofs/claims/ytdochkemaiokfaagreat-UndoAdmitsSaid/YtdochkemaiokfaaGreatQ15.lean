/- Lemmas on what the functions of the program and of the library compute: Lfw, LUa, Bw1, Bw2, Bw3, Bw4, Up0, Up3, Up4. The conditions stand at each. -/
import Derived.Test.YtdochkemaiokfaaGreatQ12
import Derived.Test.YtdochkemaiokfaaGreatQ14
import Derived.Test.YtdochkemaiokfaaGreatQ10
import Derived.Test.YtdochkemaiokfaaGreatQ2
import Derived.RangeFuncLeaves
import Derived.RangeFuncBox
import Derived.OwnWalkIn
import Derived.TacticsInMore
import Derived.LoopNIn
import Derived.LoopIn
import Derived.Maps.AppendAt
import Derived.Test.YtdochkemaiokfaaGreatQ8
import Derived.Laws.EntriesVeiled
import Derived.Maps.OwnIn
import Derived.Test.YtdochkemaiokfaaGreatQ5
import Derived.Test.YtdochkemaiokfaaGreatQ1
import Derived.Test.YtdochkemaiokfaaGreatQ7
import Derived.RangeFuncWrites
set_option maxHeartbeats 16000000
set_option maxRecDepth 100000
set_option linter.all false
namespace Go.Proofs.YtdochkemaiokfaaGreat
open Go.RowKit
def aXj (o:Opn):Prop:=o.title.size≤100∧o.mark.size≤100
theorem aAj (o:Opn) (w:World):Calls Tryz.prog 13 #[o.agg] w (rM (aXj o) w):=by
 obtain⟨i,d,k,u,p,b,l,tt,m,x9,x10,x11⟩:=o;unfold Opn.agg;dsimp only;by_cases h1:tt.size≤100
 ·have h1z:(tt.size:Int)≤100:=by omega
  by_cases h2:m.size≤100
  ·have h2z:(m.size:Int)≤100:=by omega
   go_enter Tryz.func13,Tryz.ntmps13;go_wp2;go_ret;exact rM.yes ⟨h1,h2⟩ ((uX w).alloc _)
  ·have h2z:¬ (m.size:Int)≤100:=by omega
   go_enter Tryz.func13,Tryz.ntmps13;go_wp2;go_ret;exact rM.no ((uX w).alloc _)
 ·have h1z:¬ (tt.size:Int)≤100:=by omega
  go_enter Tryz.func13,Tryz.ntmps13;go_wp2;go_ret;exact rM.no ((uX w).alloc _)
theorem h_109 {p:Prop} (h:p:=by
 exact uZ (fun k (h:k<l.length)=>(List.take_succ_eq_append_getElem h:l.take (k+1)=l.take k++[l[k]]))
):p:=h
theorem h_197 {p:Prop} (h:p:=by
 exact(show ¬ (kk:Int)<(l.length:Int) from by omega)
):p:=h
def aSp (l:List Opn):Prop:=(∀ o∈l,aXj o)∧l.length≤24
theorem aWg (l:List Opn) (lv:Value) (w:World) (hv:SlO w lv l):Calls Tryz.prog 12 #[lv] w (rM (aSp l) w):=by
 obtain⟨A,c,rfl,hlc,hcap,hr⟩:=hv.open_;unfold maxLen at hcap;have HR:=uZ hr;have HS:=h_109;have HFW:=uZ (fun k (h:k<l.length) W=>aAj l[k] W);clear hv hr;go_enter Tryz.func12,Tryz.ntmps12;go_wp2;go_loopg [3] l.length (fun gg s3 wr=>∃ kk:Nat,kk≤l.length∧l.length-kk≤gg∧s3=.int .i64 kk∧Aside (∀ o∈l.take kk,aXj o)∧Aside (aA w wr))
 case atStart=>exact⟨0,by omega,by omega,rfl,(show Aside _ from fun o h=>by simp at h),(show Aside _ from uX w)⟩
 case round =>
  obtain⟨kk,hkk,hgk,rfl,FA,GW⟩:=hrel;by_cases hlt:kk<l.length
  case neg =>
   have hltz:=h_197;obtain rfl:kk=l.length:=by omega
   rw[List.take_length] at FA;by_cases h24:l.length≤24
   ·have hz:(l.length:Int)≤24:=by omega
    have HY:=uZ (show aSp l from⟨FA.out,h24⟩);go_wp2;go_ret;exact rM.yes HY.out GW.out
   ·have hz:¬ (l.length:Int)≤24:=by omega
    go_wp2;go_ret;exact rM.no GW.out
  case pos =>
   have hltz:=h_201;obtain⟨b,off,rfl,hbb,hcell⟩:=HR.out b_53;obtain⟨c0,c1,c2,c3,c4,c5,c6,c7,c8,c9,c10,c11⟩:=hcell wr GW.out kk hlt;have K:=uZ (HFW.out kk hlt);have T:=uZ (HS.out kk hlt);generalize l[kk]=y at c0 c1 c2 c3 c4 c5 c6 c7 c8 c9 c10 c11 K T;obtain⟨y0,y1,y2,y3,y4,y5,y6,y7,y8,y9,y10,y11⟩:=y;dsimp only [Opn.agg] at c0 c1 c2 c3 c4 c5 c6 c7 c8 c9 c10 c11 K T;clear hcell;go_wp2_with fail;refine(K.out _).mono ?_;rintro e w2 ⟨q,rfl,hq,g⟩;have HG2:=uZ (GW.out.trans g);have HQ:=uZ hq;clear g hq c0 c1 c2 c3 c4 c5 c6 c7 c8 c9 c10 c11;dsimp only;cases q
   ·go_wp2
    go_ret;exact rM.no HG2.out
   ·have HAL:=uZ (show ∀ o∈l.take (kk+1),aXj o from fun o ho=>by
     rw[T.out] at ho;rcases List.mem_append.1 ho with h|h
     ·exact FA.out o h
     ·rw[List.mem_singleton.1 h]
      exact HQ.out rfl)
    clear HQ;go_wp2;go_roundg (l.length-(kk+1))
    case measure=>omega
    case rel=>exact⟨kk+1,by omega,by omega,by go_num,(show Aside _ from HAL.out),(show Aside _ from HG2.out)⟩
end Go.Proofs.YtdochkemaiokfaaGreat

namespace Go.Proofs.YtdochkemaiokfaaGreat
open Go.RowKit Go.Shelf
attribute [local go_sem] Oper.semAt_some
theorem aKa {F:Fence} (hd:F.depth=none) (k:Nat):F.room k:=fun d h=>by rw[hd] at h;cases h
theorem aJz {F:Fence} (hd:F.depth=none) {m m':Nat} {P:Program} {l:Nat} {f:FuncId} {tmps:Array Value} {assign body:Code} {w:World} {R:Ending→World→Prop}
  (h:RoundIn F m P l f tmps assign body w R):RoundIn F m' P l f tmps assign body w R:=⟨h.1,fun c cs _=>h.2 c cs (aKa hd _)⟩
theorem yO {F:Fence} (hd:F.depth=none) {m:Nat} (m':Nat) {P:Program} {l:Nat} {args:Array Value} {W:World} {R:Ending→World→Prop} (h:YieldAt F m P l args W R):YieldAt F m' P l args W R:=by
 obtain⟨fn,tmps,assign,body,hy,hR⟩:=h;exact⟨fn,tmps,assign,body,hy,aJz hd hR⟩
structure KpO (B:Nat) (W W':World):Prop where
 size:W.heap.size≤W'.heap.size
 block:∀ k o,W.heap[k]? = some o→o.isCells=true→k≠B→(∀ v,W.cell? ⟨B,0,none⟩=some v→v.ownBlock≠some k)→W'.heap[k]? = some o
 row:∀ v',W'.cell? ⟨B,0,none⟩=some v'→(∃ v,W.cell? ⟨B,0,none⟩=some v∧v.ownBlock=v'.ownBlock)∨∀ b,v'.ownBlock=some b→W.heap.size≤b∧b<W'.heap.size
def lM (B:Nat) (W:World):Prop:=B<W.heap.size∧∀ v,W.cell? ⟨B,0,none⟩=some v→∀ b,v.ownBlock=some b→b<W.heap.size
def uF (B:Nat) (W:World) (k:Nat) (o:Obj):Prop:=W.heap[k]? = some o∧o.isCells=true∧k≠B∧∀ v,W.cell? ⟨B,0,none⟩=some v→v.ownBlock≠some k
def KpB (n₀ B:Nat) (W W':World):Prop:=Below n₀ W W'∧KpO B W W'
section
variable {n₀ B k:Nat} {W W' W2:World} {o:Obj}
theorem KpO.refl (B:Nat) (W:World):KpO B W W:=⟨Nat.le_refl _,fun _ _ h _ _ _=>h,fun v' h=>.inl ⟨v',h,rfl⟩⟩
theorem KpO.trans (h:KpO B W W') (j:KpO B W' W2):KpO B W W2:=by
 refine⟨Nat.le_trans h.size j.size,fun k o ho hc hne hr=>?_,fun v' hv'=>?_⟩
 ·refine j.block k o (h.block k o ho hc hne hr) hc hne fun v' hv' hb=>?_
  have hk:=(Array.getElem?_eq_some_iff.1 ho).1;rcases h.row v' hv' with ⟨v,hv,e⟩|h2
  ·exact hr v hv (by rw[e];exact hb)
  ·have:=(h2 k hb).1
   omega
 ·rcases j.row v' hv' with ⟨v,hv,e⟩|h2
  ·rcases h.row v hv with ⟨u,hu,e2⟩|h3
   ·exact .inl ⟨u,hu,e2.trans e⟩
   ·refine .inr fun b hb=>?_
    have h4:=h3 b (by rw[e];exact hb);have:=j.size;omega
  ·refine .inr fun b hb=>?_
   have h4:=h2 b hb;have:=h.size;omega
theorem KpO.grew (hB:B<W.heap.size) (h:aA W W'):KpO B W W' :=
 ⟨h.size,fun k o ho _ _ _=>by rw[h.block k (Array.getElem?_eq_some_iff.1 ho).1];exact ho,fun v' hv'=>.inl ⟨v',by rw[← h.cell hB];exact hv',rfl⟩⟩
theorem lM.kp (h:lM B W) (j:KpO B W W'):lM B W':=by
 refine⟨Nat.lt_of_lt_of_le h.1 j.size,fun v' hv' b hb=>?_⟩;rcases j.row v' hv' with ⟨v,hv,e⟩|h2
 ·exact Nat.lt_of_lt_of_le (h.2 v hv b (by rw[e];exact hb)) j.size
 ·exact(h2 b hb).2
theorem uF.kp (h:uF B W k o) (j:KpO B W W'):uF B W' k o:=by
 obtain⟨h1,h2,h3,h4⟩:=h;refine⟨j.block k o h1 h2 h3 h4,h2,h3,fun v' hv' hb=>?_⟩;have hk:=(Array.getElem?_eq_some_iff.1 h1).1;rcases j.row v' hv' with ⟨v,hv,e⟩|h5
 ·exact h4 v hv (by rw[e];exact hb)
 ·have:=(h5 k hb).1
  omega
theorem uF.new (h:lM B W) (hc:o.isCells=true):uF B (W.alloc o) W.heap.size o:=by
 refine⟨World.alloc_heap_new W o,hc,by have:=h.1;omega,fun v hv hb=>?_⟩;have hv2:W.cell? ⟨B,0,none⟩=some v:=by rw[← hv];exact(World.cell?_alloc_lt _ _ _ h.1).symm
 have:=h.2 v hv2 _ hb;omega
theorem uF.cell {vs:Array Value} {t:TypeId} (h:uF B W k (.cells vs t (0,0))) (j:Nat) (v:Value) (hj:vs[j]? = some v):W.cell? ⟨k,j,none⟩=some v:=by
 simp[World.cell?,h.1,hj]
theorem KpB.refl (n₀ B:Nat) (W:World):KpB n₀ B W W:=⟨Below.refl _ _,KpO.refl _ _⟩
theorem KpB.trans (h:KpB n₀ B W W') (j:KpB n₀ B W' W2):KpB n₀ B W W2:=⟨h.1.trans j.1,h.2.trans j.2⟩
theorem KpB.grew (hB:B<W.heap.size) (hn:n₀≤W.heap.size) (h:aA W W'):KpB n₀ B W W':=⟨h.below.mono hn,KpO.grew hB h⟩
theorem aVn {w:World} (hn:n₀≤w.heap.size) (hB:B<w.heap.size) (W:World) (l:Nat) (o o':Obj) (hl:w.heap.size≤l) (h:W.heap[l]? = some o) (hc:o.isCells=false) (hw:o.isWalk=false):KpB n₀ B W (W.putObj l o'):=by
 have hg:=grownBy_putObj' W l o';refine⟨belowK_b hn W l o o' hl h hc hw,hg.size,fun k o2 ho hc2 _ _=>?_,fun v' hv'=>.inl ⟨v',?_,rfl⟩⟩
 ·rw[hg.block k (Array.getElem?_eq_some_iff.1 ho).1 (fun e=>?_)]
  ·exact ho
  ·injection e with e
   subst e;rw[h] at ho;injection ho with ho;rw[← ho,hc] at hc2;cases hc2
 ·have hBW:B<W.heap.size:=by have:=(Array.getElem?_eq_some_iff.1 h).1;omega
  rw[← hv'];exact(World.cell?_of_block (hg.block B hBW (fun e=>by injection e with e;omega))).symm
end
theorem aZx (l:List Int) (g:Nat) (lb:Array Value) (eg:∀ args w,(callFunc g args).run Tryz.prog w=.ok (.enter g args) w) (v:Value) (w0 w:World) (hv:SlI w0 v l) (R:Nat→World→Prop) (St:World→Prop) (hR0:R 0 w) (hRg:∀ i W,R i W→aA w0 W)
  (hp:∀ i (hi:i<l.length) W,R i W→Calls Tryz.prog g (#[(.int .i64 l[i])]++lb) W fun e w'=>(e=.returned (.bool false)∧R (i+1) w')∨(e=.returned (.bool true)∧St w')) :
  Calls Tryz.prog 226 #[v,.func (.func g) #[] lb] w fun e w'=>(e=.returned (.int .i64 (-1))∧R l.length w')∨(∃ i:Nat,e=.returned (.int .i64 (i:Int))∧St w'):=by
 obtain⟨A,c,rfl,hlc,hc,hr⟩:=hv.open_;unfold maxLen at hc;have HR:=uZ hr;have HP:=uZ hp;have HG:=uZ hRg;have HR0:=uZ hR0;clear hr hp hv hRg hR0;go_enter Tryz.func226,Tryz.ntmps226;go_wp2;go_loopg [5,8] l.length (fun gg _ s8 wr=>∃ kk:Nat,kk≤l.length∧l.length-kk≤gg∧s8=.int .i64 kk∧Aside (R kk wr))
 case atStart=>exact⟨0,Nat.zero_le _,by omega,rfl,HR0.out⟩
 case round =>
  obtain⟨kk,hkk,hg,rfl,BW⟩:=hrel;by_cases hlt:kk<l.length
  ·obtain⟨b,off,rfl,hb,hcell⟩:=HR.out b_53
   obtain c0:=hcell wr (HG.out kk wr BW.out) kk hlt;have hcall:=HP.out kk hlt wr BW.out;have hltz:=h_201;clear hcell;generalize l[kk]=y at c0 hcall;go_wp2_with (go_at_fn g;refine hcall.mono ?_;rintro e w' (⟨rfl,hb'⟩|⟨rfl,hb'⟩))
   ·go_roundg (l.length-(kk+1))
    case measure=>omega
    case rel=>exact⟨kk+1,by omega,by omega,by go_num,(show Aside _ from hb')⟩
   ·go_ret
    exact .inr ⟨kk,rfl,hb'⟩
  ·have hltz:¬ (kk:Int)<(l.length:Int):=by omega
   obtain rfl:kk=l.length:=by omega
   go_wp2;go_ret;exact .inl ⟨rfl,BW.out⟩
theorem aDt (l:List Int) (g:Nat) (lb:Array Value) (eg:∀ args w,(callFunc g args).run Tryz.prog w=.ok (.enter g args) w) (v:Value) (w0 w:World) (hv:SlI w0 v l) (R:Nat→World→Prop) (St:World→Prop) (hR0:R 0 w) (hRg:∀ i W,R i W→aA w0 W)
  (hp:∀ i (hi:i<l.length) W,R i W→Calls Tryz.prog g (#[(.int .i64 l[i])]++lb) W fun e w'=>(e=.returned (.bool false)∧R (i+1) w')∨(e=.returned (.bool true)∧St w')) :
  Calls Tryz.prog 223 #[v,.func (.func g) #[] lb] w fun e w'=>(e=.returned (.bool false)∧R l.length w')∨(e=.returned (.bool true)∧St w'):=by
 have K:=uZ (aZx l g lb eg v w0 w hv R St hR0 hRg hp);clear hv hR0 hRg hp;go_enter Tryz.func223,Tryz.ntmps223;go_wp2_with fail;refine K.out.mono ?_;rintro e w1 (⟨rfl,h⟩|⟨i,rfl,h⟩)
 ·dsimp only
  go_wp2;go_ret;exact .inl ⟨rfl,h⟩
 ·have h0:(0:Int)≤(i:Int):=by omega
  dsimp only;go_wp2;go_ret;exact .inr ⟨rfl,h⟩
end Go.Proofs.YtdochkemaiokfaaGreat
namespace Go.Proofs.YtdochkemaiokfaaGreat
open Go.RowKit Go.Shelf
attribute [local go_sem] Oper.semAt_some
structure Boxes (B lp Yb Tb Vb:Nat) (rv bv:Value) (W:World):Prop where
 y:∃ t,uF B W Yb (.cells #[.func (.yield lp) #[] #[]] t (0,0))
 t:∃ t,uF B W Tb (.cells #[rv,bv] t (0,0))
 v:∃ t,uF B W Vb (.cells #[.func (.func 222) #[] #[.pointer (some ⟨Yb,0,none⟩),.pointer (some ⟨Tb,0,none⟩),.pointer (some ⟨Vb,0,none⟩)]] t (0,0))
theorem Boxes.kp {B lp Yb Tb Vb:Nat} {rv bv:Value} {W W':World} (h:Boxes B lp Yb Tb Vb rv bv W) (j:KpO B W W'):Boxes B lp Yb Tb Vb rv bv W' :=
 ⟨h.y.imp fun _ p=>p.kp j,h.t.imp fun _ p=>p.kp j,h.v.imp fun _ p=>p.kp j⟩
def vV (J Jx:List (Int × Int)→World→Prop) (n₀ B:Nat) (L:List Int) (pre:List (Int × Int)) (W:World) (e:Ending) (W':World):Prop :=
 (e=.returned (.bool true)∧(∃ ys:List (Int × Int),ys.map Prod.fst=L∧J (pre++ys) W')∧KpB n₀ B W W')∨(e=.returned (.bool false)∧∃ ys:List (Int × Int),ys.map Prod.fst <+: L∧Jx (pre++ys) W')
theorem aUf (kid above:Int) (Vb Ab:Nat) (p1 p2 p3:Value) (W:World) (c1:W.cell? ⟨Vb,0,none⟩=some (.func (.func 222) #[] #[p1,p2,p3])) (c2:W.cell? ⟨Ab,0,none⟩=some (.int .i64 above)) (R1 R2:World→Prop)
  (h:∀ a:Int,Calls Tryz.prog 222 (#[.int .i64 kid,.int .i64 a] ++ #[p1,p2,p3]) W fun e W'=>(e=.returned (.bool true)∧R1 W')∨(e=.returned (.bool false)∧R2 W')) :
  Calls Tryz.prog 225 (#[.int .i64 kid] ++ #[.pointer (some ⟨Vb,0,none⟩),.pointer (some ⟨Ab,0,none⟩)]) W fun e W'=>(e=.returned (.bool false)∧R1 W')∨(e=.returned (.bool true)∧R2 W'):=by
 have H:=uZ h;clear h;go_enter Tryz.func225,Tryz.ntmps225;go_wp2_with fail;refine(H.out _).mono ?_;rintro e w' (⟨rfl,hb'⟩|⟨rfl,hb'⟩)
 ·dsimp only
  go_wp2;go_ret;exact .inl ⟨rfl,hb'⟩
 ·dsimp only
  go_wp2;go_ret;exact .inr ⟨rfl,hb'⟩
theorem tZ:∀ args w,(callFunc 225 args).run Tryz.prog w=.ok (.enter 225 args) w:=enters_of Tryz.func225 (by kernel_rfl) rfl
theorem mG (g:Int→List Int) (ks:List Int) (i:Nat) (hi:i<ks.length):(ks.take (i+1)).flatMap g=(ks.take i).flatMap g++g ks[i]:=by
 rw[List.take_succ_eq_append_getElem hi,List.flatMap_append];simp
theorem jT (g:Int→List Int) (ks:List Int) (i:Nat) (hi:i<ks.length):ks.flatMap g=(ks.take i).flatMap g++(g ks[i]++(ks.drop (i+1)).flatMap g):=by
 have h:ks.flatMap g=(ks.take (i+1)++ks.drop (i+1)).flatMap g:=by rw[List.take_append_drop]
 rw[h,List.flatMap_append,mG g ks i hi,List.append_assoc]
def bBc (B lp Yb Tb Vb:Nat) (rv bv:Value) (w0 W:World) (above:Int) (pre:List (Int × Int)) (J:List (Int × Int)→World→Prop) (ks:List Int) (g:Int→List Int) (i:Nat) (W':World):Prop :=
 Boxes B lp Yb Tb Vb rv bv W'∧lM B W'∧uF B W' W.heap.size (.cells #[.int .i64 above] 3 (0,0))∧aA w0 W'∧KpB w0.heap.size B W W'∧∃ ys:List (Int × Int),ys.map Prod.fst=(ks.take i).flatMap g∧J (pre++ys) W'
theorem bBc.grew {B lp Yb Tb Vb:Nat} {rv bv:Value} {w0 W W':World} {above:Int} {pre:List (Int × Int)} {J:List (Int × Int)→World→Prop} {ks:List Int} {g:Int→List Int} {i:Nat} (h:bBc B lp Yb Tb Vb rv bv w0 W above pre J ks g i W'):aA w0 W':=h.2.2.2.1
def bDv (pre:List (Int × Int)) (Jx:List (Int × Int)→World→Prop) (ks:List Int) (g:Int→List Int) (W':World):Prop:=∃ ys:List (Int × Int),ys.map Prod.fst <+: ks.flatMap g∧Jx (pre++ys) W'
theorem aUb {B lp Yb Tb Vb N:Nat} {rv bv:Value} {w0 W W4:World} {above:Int} {pre:List (Int × Int)} {J Jx:List (Int × Int)→World→Prop} {ks:List Int} {g:Int→List Int} {i:Nat} (hi:i<ks.length) (hN:pre.length+(ks.flatMap g).length≤N)
  (hK:∀ above pre W,Boxes B lp Yb Tb Vb rv bv W→lM B W→aA w0 W→J pre W→pre.length+(g ks[i]).length≤N →
   Calls Tryz.prog 222 #[.int .i64 ks[i],.int .i64 above,.pointer (some ⟨Yb,0,none⟩),.pointer (some ⟨Tb,0,none⟩),.pointer (some ⟨Vb,0,none⟩)] W (vV J Jx w0.heap.size B (g ks[i]) pre W))
  (h:bBc B lp Yb Tb Vb rv bv w0 W above pre J ks g i W4) :
  Calls Tryz.prog 225 (#[.int .i64 ks[i]] ++ #[.pointer (some ⟨Vb,0,none⟩),.pointer (some ⟨W.heap.size,0,none⟩)]) W4 fun e W'=>(e=.returned (.bool false)∧bBc B lp Yb Tb Vb rv bv w0 W above pre J ks g (i+1) W')∨(e=.returned (.bool true)∧bDv pre Jx ks g W'):=by
 obtain⟨hB,hO,hPA,hG,hK4,ys,hys,hj⟩:=h;obtain⟨tv,hpv⟩:=hB.v;have hsp:=jT g ks i hi;have hlen:ys.length=((ks.take i).flatMap g).length:=by rw[← hys,List.length_map]
 refine aUf ks[i] above Vb W.heap.size _ _ _ W4 (hpv.cell 0 _ rfl) (hPA.cell 0 _ rfl) _ _ fun a=>?_
 refine(hK a (pre++ys) W4 hB hO hG hj ?_).mono ?_
 ·rw[hsp] at hN
  simp only [List.length_append] at hN ⊢;omega
 ·rintro e W' (⟨rfl,⟨zs,hzs,hj'⟩,hk'⟩|⟨rfl,zs,hzs,hj'⟩)
  ·refine .inl ⟨rfl,hB.kp hk'.2,hO.kp hk'.2,hPA.kp hk'.2,Below.trans hG hk'.1,hK4.trans hk',ys++zs,?_,by rw[← List.append_assoc];exact hj'⟩
   rw[mG g ks i hi,List.map_append,hys,hzs]
  ·refine .inr ⟨rfl,ys++zs,?_,by rw[← List.append_assoc];exact hj'⟩
   rw[hsp,List.map_append,hys];obtain⟨r,hr⟩:=hzs;exact⟨r++(ks.drop (i+1)).flatMap g,by rw[← hr];simp⟩
theorem uI (rs:List Int) (l:List Br) (rv bv:Value) (w0:World) (hr:SlI w0 rv rs) (hv:bQ w0 bv l) (hf:l.length≤1000000) (hT:aM ⟨rs,l⟩) (B lp Yb Tb Vb N:Nat) (J Jx:List (Int × Int)→World→Prop)
  (hJ:∀ s W W',J s W→aA W W'→J s W')
  (hY:∀ m pre (x:Int × Int) W,J pre W→pre.length<N→YieldAt Fence.wide m Tryz.prog lp #[.int .i64 x.1,.int .i64 x.2] W fun e W' =>
   (e=.returned (.bool true)∧J (pre++[x]) W'∧KpB w0.heap.size B W W')∨(e=.returned (.bool false)∧Jx (pre++[x]) W'))
  (x:Int) (hid:x=0∨∃ b,aE l x=some b) (g:Int→List Int)
  (hK:∀ k∈aB ⟨rs,l⟩ x,∀ above pre W,Boxes B lp Yb Tb Vb rv bv W→lM B W→aA w0 W→J pre W→pre.length+(g k).length≤N →
   Calls Tryz.prog 222 #[.int .i64 k,.int .i64 above,.pointer (some ⟨Yb,0,none⟩),.pointer (some ⟨Tb,0,none⟩),.pointer (some ⟨Vb,0,none⟩)] W (vV J Jx w0.heap.size B (g k) pre W))
  (above:Int) (pre:List (Int × Int)) (W:World) (hB:Boxes B lp Yb Tb Vb rv bv W) (hO:lM B W) (hG:aA w0 W) (hj:J pre W) (hN:pre.length+(x::(aB ⟨rs,l⟩ x).flatMap g).length≤N) :
  Calls Tryz.prog 222 #[.int .i64 x,.int .i64 above,.pointer (some ⟨Yb,0,none⟩),.pointer (some ⟨Tb,0,none⟩),.pointer (some ⟨Vb,0,none⟩)] W (vV J Jx w0.heap.size B (x::(aB ⟨rs,l⟩ x).flatMap g) pre W):=by
 simp only [List.length_cons] at hN;obtain⟨W1,hW1⟩:∃ W1,W1=W.alloc (.cells #[.int .i64 above] 3):=⟨_,rfl⟩
 have hn0:w0.heap.size≤W.heap.size:=hG.size;have hgA:aA W W1:=by rw[hW1];exact(uX W).alloc _
 have hkA:KpB w0.heap.size B W W1:=KpB.grew hO.1 hn0 hgA;have hPA:uF B W1 W.heap.size (.cells #[.int .i64 above] 3 (0,0)):=by rw[hW1];exact uF.new hO rfl
 have hB1:=hB.kp hkA.2;have hO1:=hO.kp hkA.2;obtain⟨fn,tmps,assign,body,hy,hR⟩:=hY 8 pre (x,above) W1 (hJ _ _ _ hj hgA) b_53;obtain⟨ty,hpy⟩:=hB1.y;have cy:W1.cell? ⟨Yb,0,none⟩=some (.func (.yield lp) #[] #[]):=hpy.cell 0 _ rfl;have ca:W1.cell? ⟨W.heap.size,0,none⟩=some (.int .i64 above):=hPA.cell 0 _ rfl;have HPA:=uZ hPA;have HB1:=uZ hB1;have HO1:=uZ hO1;have HKA:=uZ hkA;have HG1:=uZ (hG.trans hgA);have HN:=uZ hN;have HK:=uZ hK;have HJ:=uZ hJ;have HKI:=uZ (fun W (hW:aA w0 W)=>aXz rs l x rv bv w0 W hr hv hW hf hT hid);generalize aB ⟨rs,l⟩ x=ks at HN HK HKI ⊢;clear hr hv hT hJ hY hK hB hO hG hj hN hgA hkA hPA hB1 hO1 hpy hid hf hn0;subst hW1;refine(callsIn_wide (n:=9)).1 ?_;refine callsIn_of_wp Tryz.func222 rfl trivial ?_ rfl;simp only [Tryz.ntmps222,List.size_toArray,List.length_cons,List.length_nil,Nat.reduceAdd,Nat.reduceSub,Array.replicate_succ,Array.replicate_zero,List.push_toArray,List.append_toArray,List.nil_append,List.cons_append]
 gi_wp2_with fail
 refine hR.mono ?_;rintro e W2 (⟨rfl,hJ2,hk2⟩|⟨rfl,hJx2⟩)
 ·have HK2:=uZ (HKA.out.trans hk2)
  have HB2:=uZ (HB1.out.kp hk2.2);have HO2:=uZ (HO1.out.kp hk2.2);have HPA2:=uZ (HPA.out.kp hk2.2);have HG2:=uZ (show aA w0 W2 from Below.trans HG1.out hk2.1);obtain⟨tt,hpt⟩:=HB2.out.t;have t0:W2.cell? ⟨Tb,0,none⟩=some rv:=hpt.cell 0 _ rfl;have t1:W2.cell? ⟨Tb,1,none⟩=some bv:=hpt.cell 1 _ rfl;have HJ2:=uZ hJ2;clear hk2 hpt hJ2;dsimp only
  gi_wp2_with fail
  refine⟨trivial,(callsIn_wide.2 (HKI.out _ HG2.out)).mono ?_⟩;rintro e W3 ⟨v3,rfl,s3,g3⟩;have hk3:KpB w0.heap.size B W2 W3:=KpB.grew HO2.out.1 HG2.out.size g3
  have hc:=aDt ks 225 #[.pointer (some ⟨Vb,0,none⟩),.pointer (some ⟨W.heap.size,0,none⟩)] tZ v3 w0 W3 s3 (bBc B lp Yb Tb Vb rv bv w0 W above (pre++[(x,above)]) J ks g) (bDv (pre++[(x,above)]) Jx ks g)
   ⟨HB2.out.kp hk3.2,HO2.out.kp hk3.2,HPA2.out.kp hk3.2,HG2.out.trans g3,HK2.out.trans hk3,[],by simp,by simpa using HJ.out _ _ _ HJ2.out g3⟩ (fun _ _ h=>h.grew) (fun i hi W4 hR4=>aUb hi (by have:=HN.out;simp only [List.length_append,List.length_cons,List.length_nil];omega) (HK.out ks[i] (List.getElem_mem hi)) hR4)
  have HC:=uZ hc;clear hk3 hc t0 t1 g3;dsimp only
  gi_wp2_with fail
  refine⟨trivial,(callsIn_wide.2 HC.out).mono ?_⟩;rintro e W4 (⟨rfl,h4⟩|⟨rfl,h4⟩)
  ·dsimp only
   gi_wp2
   go_ret;obtain⟨-,-,-,-,hk4,ys,hys,hj4⟩:=h4;rw[List.take_length] at hys;exact .inl ⟨rfl,⟨(x,above)::ys,by simp[hys],by simpa [List.append_assoc] using hj4⟩,hk4⟩
  ·dsimp only
   gi_wp2
   go_ret;obtain⟨ys,hys,hj4⟩:=h4;exact .inr ⟨rfl,(x,above)::ys,by simpa using hys,by simpa [List.append_assoc] using hj4⟩
 ·dsimp only
  gi_wp2
  go_ret;exact .inr ⟨rfl,[(x,above)],by simp,hJx2⟩
end Go.Proofs.YtdochkemaiokfaaGreat
namespace Go.Proofs.YtdochkemaiokfaaGreat
open Go.RowKit Go.Shelf
attribute [local go_sem] Oper.semAt_some
theorem c_62 {p:Prop} (h:p:=by
 rw[List.eq_nil_iff_forall_not_mem];intro k hk;obtain⟨c,hc,hcp,_⟩:=(dY hS (.inr ⟨b,hb,rfl⟩)).1 hk;have h1:=fT hS hb hc hcp hd;have h2:=lA hS.asc hc h1;have h3:(Tr.brs ⟨rs,l⟩).length=l.length:=rfl;omega
):p:=h
theorem h_58 {p:Prop} (h:p:=by
 exact aFr (.func 222) #[.pointer (some ⟨W.heap.size,0,none⟩),.pointer (some ⟨Tb,0,none⟩),.pointer (some ⟨W.heap.size+1,0,none⟩)]
):p:=h
theorem uF.fresh {B k:Nat} {W W':World} {o:Obj} (h:lM B W) (hg:aA W W') (hk:W.heap.size≤k) (ho:W'.heap[k]? = some o) (hc:o.isCells=true):uF B W' k o:=by
 refine⟨ho,hc,by have:=h.1;omega,fun v hv hb=>?_⟩;rw[hg.cell h.1] at hv;have:=h.2 v hv _ hb;omega
theorem yD (W:World) (o:Obj) (v:Value) (t:TypeId):((W.alloc o).alloc (.cells #[v] t)).cell? ⟨W.heap.size+1,0,none⟩=some v∧((W.alloc o).alloc (.cells #[v] t)).frozen? ⟨W.heap.size+1,0,none⟩=false:=by
 have h:=World.alloc_heap_new (W.alloc o) (.cells #[v] t);rw[World.size_alloc] at h;exact⟨cell_of_one h,free_of_one h⟩
theorem aFr (f:Fn) (b:Array Value):(Value.func f #[] b).oneCell'=true:=by simp[Value.oneCell']
def bBd (B lp Yb Tb Vb:Nat) (rv bv:Value) (w0:World) (J:List (Int × Int)→World→Prop) (rs:List Int) (g:Int→List Int) (k:Nat) (W:World):Prop :=
 Boxes B lp Yb Tb Vb rv bv W∧lM B W∧aA w0 W∧∃ ys:List (Int × Int),ys.map Prod.fst=(rs.take k).flatMap g∧J ys W
theorem aPq {B lp Yb Tb Vb:Nat} {rv bv:Value} {w0 W W5:World} {J:List (Int × Int)→World→Prop} {rs:List Int} {g:Int→List Int} {k:Nat} {ys zs:List (Int × Int)} (hk:k<rs.length) (hB:Boxes B lp Yb Tb Vb rv bv W) (hO:lM B W) (hG:aA w0 W) (hys:ys.map Prod.fst=(rs.take k).flatMap g)
  (h1:zs.map Prod.fst=g rs[k]) (h2:J (ys++zs) W5) (h3:KpB w0.heap.size B W W5):bBd B lp Yb Tb Vb rv bv w0 J rs g (k+1) W5 :=
 ⟨hB.kp h3.2,hO.kp h3.2,Below.trans hG h3.1,ys++zs,by rw[mG g rs k hk,List.map_append,hys,h1],h2⟩
theorem aPp {rs:List Int} {g:Int→List Int} {k:Nat} {ys zs:List (Int × Int)} (hk:k<rs.length) (hys:ys.map Prod.fst=(rs.take k).flatMap g) (h1:zs.map Prod.fst <+: g rs[k]):(ys++zs).map Prod.fst <+: rs.flatMap g:=by
 rw[jT g rs k hk,List.map_append,hys];obtain⟨r,hr⟩:=h1;exact⟨r++(rs.drop (k+1)).flatMap g,by rw[← hr];simp⟩
section
variable (rs:List Int) (l:List Br) (rv bv:Value) (w0:World) (hr:SlI w0 rv rs) (hv:bQ w0 bv l) (hf:l.length≤1000000) (hT:aM ⟨rs,l⟩) (B lp Yb Tb Vb N:Nat) (J Jx:List (Int × Int)→World→Prop)
  (hJ:∀ s W W',J s W→aA W W'→J s W')
  (hY:∀ m pre (x:Int × Int) W,J pre W→pre.length<N→YieldAt Fence.wide m Tryz.prog lp #[.int .i64 x.1,.int .i64 x.2] W fun e W' =>
   (e=.returned (.bool true)∧J (pre++[x]) W'∧KpB w0.heap.size B W W')∨(e=.returned (.bool false)∧Jx (pre++[x]) W'))
include hr hv hf hT hJ hY
theorem aXv:∀(f:Nat) (b:Br) (d:Nat),b∈l→dJ l l.length b=some d→l.length≤f+d→∀ above pre W,Boxes B lp Yb Tb Vb rv bv W→lM B W→aA w0 W→J pre W→pre.length+(cO ⟨rs,l⟩ f b.id).length≤N →
  Calls Tryz.prog 222 #[.int .i64 b.id,.int .i64 above,.pointer (some ⟨Yb,0,none⟩),.pointer (some ⟨Tb,0,none⟩),.pointer (some ⟨Vb,0,none⟩)] W (vV J Jx w0.heap.size B (cO ⟨rs,l⟩ f b.id) pre W):=by
 have hS:=bL hT;intro f
 induction f with
 | zero =>
  intro b d hb hd hfd above pre W hB hO hG hj hN
  have hno:aB ⟨rs,l⟩ b.id=[]:=by
   exact c_62
  have he:cO ⟨rs,l⟩ 0 b.id=b.id::(aB ⟨rs,l⟩ b.id).flatMap (fun _=>[]):=by rw[hno];rfl
  rw[he] at hN ⊢;exact uI rs l rv bv w0 hr hv hf hT B lp Yb Tb Vb N J Jx hJ hY b.id (.inr ⟨b,dN hS.asc hb⟩) _ (fun k hk=>by rw[hno] at hk;cases hk) above pre W hB hO hG hj hN
 | succ f ih =>
  intro b d hb hd hfd above pre W hB hO hG hj hN;refine uI rs l rv bv w0 hr hv hf hT B lp Yb Tb Vb N J Jx hJ hY b.id (.inr ⟨b,dN hS.asc hb⟩) (cO ⟨rs,l⟩ f) (fun k hk=>?_) above pre W hB hO hG hj hN;obtain⟨c,hc,hcp,e⟩:=(dY hS (.inr ⟨b,hb,rfl⟩)).1 hk;rw[← e];exact ih c (d+1) hc (fT hS hb hc hcp hd) b_53
theorem aXu (Ib:Nat) (id:Int) (hid:id=0∨∃ b,aE l id=some b) (hN:(bA ⟨rs,l⟩ id).length≤N) (W:World) (hTb:∃ t,uF B W Tb (.cells #[rv,bv] t (0,0))) (hIb:W.cell? ⟨Ib,0,none⟩=some (.int .i64 id)) (hO:lM B W) (hG:aA w0 W) (h0:J [] W)
  (hVb:Vb=W.heap.size+1) (hYb:Yb=W.heap.size) :
  Calls Tryz.prog 221 #[.func (.yield lp) #[] #[],.pointer (some ⟨Tb,0,none⟩),.pointer (some ⟨Ib,0,none⟩)] W fun e W'=>(∃ v,e=.returned v)∧((∃ xs:List (Int × Int),xs.map Prod.fst=bA ⟨rs,l⟩ id∧J xs W')∨(∃ pre:List (Int × Int),pre.map Prod.fst <+: bA ⟨rs,l⟩ id∧Jx pre W')):=by
 have hS:=bL hT;have hV:=aXv rs l rv bv w0 hr hv hf hT B lp Yb Tb Vb N J Jx hJ hY
 have hVr:∀ k∈rs,∀ above pre W,Boxes B lp Yb Tb Vb rv bv W→lM B W→aA w0 W→J pre W→pre.length+(cO ⟨rs,l⟩ l.length k).length≤N →
   Calls Tryz.prog 222 #[.int .i64 k,.int .i64 above,.pointer (some ⟨Yb,0,none⟩),.pointer (some ⟨Tb,0,none⟩),.pointer (some ⟨Vb,0,none⟩)] W (vV J Jx w0.heap.size B (cO ⟨rs,l⟩ l.length k) pre W):=by
  intro k hk;obtain⟨c,hc,_,e⟩:=(hS.roots.2 k).1 hk;obtain⟨d,hd,_⟩:=gZ hS hc;rw[← e];exact hV l.length c d hc hd b_53
 have hVi:∀ b,aE l id=some b→∀ above pre W,Boxes B lp Yb Tb Vb rv bv W→lM B W→aA w0 W→J pre W→pre.length+(cO ⟨rs,l⟩ l.length id).length≤N →
   Calls Tryz.prog 222 #[.int .i64 id,.int .i64 above,.pointer (some ⟨Yb,0,none⟩),.pointer (some ⟨Tb,0,none⟩),.pointer (some ⟨Vb,0,none⟩)] W (vV J Jx w0.heap.size B (cO ⟨rs,l⟩ l.length id) pre W):=by
  intro b hb;have hin:=bE hb;obtain⟨d,hd,_⟩:=gZ hS hin.1;rw[← hin.2];exact hV l.length b d hin.1 hd b_53
 subst hVb hYb;obtain⟨tb,hpt⟩:=hTb;have t0:W.cell? ⟨Tb,0,none⟩=some rv:=hpt.cell 0 _ rfl;obtain⟨W2,hW2⟩:∃ W2,W2=(W.alloc (.cells #[.func (.yield lp) #[] #[]] 186)).alloc (.cells #[.func (.func 222) #[] #[.pointer (some ⟨W.heap.size,0,none⟩),.pointer (some ⟨Tb,0,none⟩),.pointer (some ⟨W.heap.size+1,0,none⟩)]] 186):=⟨_,rfl⟩
 have hgA:aA W W2:=by rw[hW2];exact((uX W).alloc _).alloc _
 have hB2:Boxes B lp W.heap.size Tb (W.heap.size+1) rv bv W2:=by
  refine⟨⟨_,uF.fresh hO hgA (Nat.le_refl _) (o:=.cells #[.func (.yield lp) #[] #[]] 186 (0,0)) ?_ rfl⟩,⟨tb,hpt.kp (KpO.grew hO.1 hgA)⟩,⟨_,uF.fresh hO hgA (Nat.le_succ _) (o:=.cells #[.func (.func 222) #[] #[.pointer (some ⟨W.heap.size,0,none⟩),.pointer (some ⟨Tb,0,none⟩),.pointer (some ⟨W.heap.size+1,0,none⟩)]] 186 (0,0)) ?_ rfl⟩⟩
  ·rw[hW2]
   rw[Below.heap_alloc _ _ _ b_54];exact World.alloc_heap_new W _
  ·rw[hW2]
   have:=World.alloc_heap_new (W.alloc (.cells #[.func (.yield lp) #[] #[]] 186)) (.cells #[.func (.func 222) #[] #[.pointer (some ⟨W.heap.size,0,none⟩),.pointer (some ⟨Tb,0,none⟩),.pointer (some ⟨W.heap.size+1,0,none⟩)]] 186)
   rwa [World.size_alloc] at this
 have hO2:=hO.kp (KpO.grew hO.1 hgA);have hi2:W2.cell? ⟨Ib,0,none⟩=some (.int .i64 id):=uQ hgA hIb;have ht2:W2.cell? ⟨Tb,0,none⟩=some rv:=uQ hgA t0
 have hv2:W2.cell? ⟨W.heap.size+1,0,none⟩=some (.func (.func 222) #[] #[.pointer (some ⟨W.heap.size,0,none⟩),.pointer (some ⟨Tb,0,none⟩),.pointer (some ⟨W.heap.size+1,0,none⟩)]):=by
  obtain⟨tv,hpv⟩:=hB2.v;exact hpv.cell 0 _ rfl
 have HJ2:=uZ (hJ _ _ _ h0 hgA);have HB2:=uZ hB2;have HO2:=uZ hO2;have HG2:=uZ (hG.trans hgA);have HVr:=uZ hVr;have HVi:=uZ hVi;have HNN:=uZ hN;have HR:=uZ hr;have HJ:=uZ hJ;have HW2:=uZ hW2;have HI2:=uZ hi2;have HT2:=uZ ht2;have HV2:=uZ hv2;clear hW2 hi2 ht2 hv2 t0 hIb;clear hV hVr hVi hS hT hY hv hf hB2 hO2 hgA hpt hO hG h0 hN hr;by_cases hz:id=0
 ·subst hz
  have hbt:bA ⟨rs,l⟩ 0=rs.flatMap (cO ⟨rs,l⟩ l.length):=by
   unfold bA;rw[if_pos rfl]
  rw[hbt] at HNN ⊢;generalize cO ⟨rs,l⟩ l.length=g at HVr HVi HNN ⊢;obtain⟨A,c,rfl,hlc,hc,hcr⟩:=HR.out.open_;unfold maxLen at hc;have HCR:=uZ hcr;clear hbt hcr hid HVi;obtain⟨cn,fn⟩:=yD W (.cells #[.func (.yield lp) #[] #[]] 186) .nilFunc 186;have ho:=h_58;have hi2:=HI2.out;have ht2:=HT2.out;rw[HW2.out] at hi2 ht2;go_enter Tryz.func221,Tryz.ntmps221;go_wp2;go_loopg [6,16] rs.length (fun gg _ s16 wr=>∃ k:Nat,k≤rs.length∧rs.length-k≤gg∧s16=.int .i64 k∧Aside (bBd B lp W.heap.size Tb (W.heap.size+1) (.slice A rs.length c) bv w0 J rs g k wr))
  case atStart=>exact⟨0,by omega,by omega,rfl,(show Aside _ from by rw[← HW2.out];exact⟨HB2.out,HO2.out,HG2.out,[],by simp,HJ2.out⟩)⟩
  case round =>
   obtain⟨k,hk,hgk,rfl,RW⟩:=hrel;by_cases hlt:k<rs.length
   ·have hltz:(k:Int)<(rs.length:Int):=by omega
    have h0z:=h_216;obtain⟨b,off,rfl,hbk,hcell⟩:=HCR.out b_53;obtain⟨hBr,hOr,hGr,ys,hys,hjr⟩:=RW.out;have c0:=hcell wr hGr k hlt;obtain⟨tv,hpv⟩:=hBr.v;have cv:wr.cell? ⟨W.heap.size+1,0,none⟩=some (.func (.func 222) #[] #[.pointer (some ⟨W.heap.size,0,none⟩),.pointer (some ⟨Tb,0,none⟩),.pointer (some ⟨W.heap.size+1,0,none⟩)]):=hpv.cell 0 _ rfl;have hsp:=jT g rs k hlt;have hlen:ys.length=((rs.take k).flatMap g).length:=by rw[← hys,List.length_map]
    have hcall:=HVr.out rs[k] (List.getElem_mem hlt) 0 ys wr hBr hOr hGr hjr (by
     have:=HNN.out;rw[hsp] at this;simp only [List.length_append] at this
     omega)
    have HCALL:=uZ hcall;have HST:=uZ (fun W5 (zs:List (Int × Int)) h1 h2 h3=>aPq (J:=J) (g:=g) (rs:=rs) hlt hBr hOr hGr hys (W5:=W5) (zs:=zs) h1 h2 h3);have HSX:=uZ (fun(zs:List (Int × Int)) h1=>aPp (g:=g) (rs:=rs) hlt hys (zs:=zs) h1);clear hcell hBr hOr hGr hys hjr hpv hsp hlen hcall;generalize rs[k]=y at c0 HCALL HST HSX;go_wp2_with fail;refine HCALL.out.mono ?_;rintro e W5 (⟨rfl,⟨zs,hzs,hj5⟩,hk5⟩|⟨rfl,zs,hzs,hj5⟩)
    ·have hst:=HST.out W5 zs hzs hj5 hk5
     dsimp only;go_wp2;go_roundg (rs.length-(k+1))
     case measure=>omega
     case rel=>exact⟨k+1,by omega,by omega,by go_num,(show Aside _ from hst)⟩
    ·have hsx:=HSX.out zs hzs
     dsimp only;go_wp2;refine bodyPost_ret (results_none rfl _ _ _) rfl ?_;exact⟨⟨_,rfl⟩,.inr ⟨ys++zs,hsx,hj5⟩⟩
   ·have hltz:¬ (k:Int)<(rs.length:Int):=by omega
    obtain rfl:k=rs.length:=by omega
    go_wp2
    go_end0
    obtain⟨-,-,-,ys,hys,hjr⟩:=RW.out;rw[List.take_length] at hys;exact⟨⟨_,rfl⟩,.inl ⟨ys,hys,hjr⟩⟩
 ·obtain⟨b,hb⟩:=hid.resolve_left hz
  have hbt:bA ⟨rs,l⟩ id=cO ⟨rs,l⟩ l.length id:=by
   unfold bA;rw[if_neg hz]
  rw[hbt] at HNN ⊢;have HC:=uZ (HVi.out b hb 0 [] W2 HB2.out HO2.out HG2.out HJ2.out (by have:=HNN.out;simpa using this));generalize cO ⟨rs,l⟩ l.length id=L at HC ⊢;have hz':(id == 0)=false:=by simpa using hz
  have hi2:=HI2.out;have hv2:=HV2.out;rw[HW2.out] at hi2 hv2 HC;obtain⟨cn,fn⟩:=yD W (.cells #[.func (.yield lp) #[] #[]] 186) .nilFunc 186;have ho:=h_58;clear hbt hb hid HVr HVi hz;go_enter Tryz.func221,Tryz.ntmps221;go_wp2_with fail;refine HC.out.mono ?_;rintro e W5 (⟨rfl,⟨zs,hzs,hj5⟩,hk5⟩|⟨rfl,zs,hzs,hj5⟩)
  ·dsimp only
   go_wp2;refine bodyPost_ret (results_none rfl _ _ _) rfl ?_;exact⟨⟨_,rfl⟩,.inl ⟨zs,hzs,by simpa using hj5⟩⟩
  ·dsimp only
   go_wp2;refine bodyPost_ret (results_none rfl _ _ _) rfl ?_;exact⟨⟨_,rfl⟩,.inr ⟨zs,hzs,by simpa using hj5⟩⟩
end
end Go.Proofs.YtdochkemaiokfaaGreat
namespace Go.Proofs.YtdochkemaiokfaaGreat
open Go.RowKit Go.Shelf
attribute [local go_sem] Oper.semAt_some
theorem bCe (rv bv:Value) (id:Int) (w:World):Calls Tryz.prog 189 #[.agg #[rv,bv],.int .i64 id] w fun e w'=>e=.returned (.func (.func 221) #[] #[.pointer (some ⟨w.heap.size,0,none⟩),.pointer (some ⟨w.heap.size+1,0,none⟩)])∧(w.alloc (.cells #[rv,bv] 43)).alloc (.cells #[.int .i64 id] 3)=w':=by
 go_enter Tryz.func189,Tryz.ntmps189;exact c_130
theorem aHs {W w1:World} {n₀ B:Nat} {t e:TypeId} {size:Nat} {v v':Value} {k m:Nat} {xs ys:List Value} {tmp:Obj} (hv:Boxed W B t v) (hte:t≠e) (hrow:W.ownsRow n₀ e size v k xs) (hown':w1.ownsRow n₀ e size v' m ys) (hgrow:(W.alloc tmp).grownBy w1 v.ownBlock)
  (hloc:v'.ownBlock=v.ownBlock∨v'.ownBlock=some (W.alloc tmp).heap.size):KpO B W (w1.setCell ⟨B,0,none⟩ v'):=by
 have hv1:Boxed w1 B t v:=(hv.alloc tmp).kept hgrow (hv.not_row hte hrow);have hsz:W.heap.size+1≤w1.heap.size:=by have:=hgrow.size;simpa using this
 refine⟨by simp;omega,fun j o ho hc hne hr=>?_,fun v'' hv''=>?_⟩
 ·rw[Below.heap_setCell _ _ _ _ hne]
  have hj:=(Array.getElem?_eq_some_iff.1 ho).1;rw[hgrow.block j b_50 (fun e=>hr v hv.cell e.symm),Below.heap_alloc _ _ _ hj];exact ho
 ·have:v''=v':=by
   have h2:=(hv1.set v').cell;rw[h2] at hv'';exact(Option.some.inj hv'').symm
  subst this;rcases hloc with h|h
  ·exact .inl ⟨v,hv.cell,h.symm⟩
  ·refine .inr fun b hb=>?_
   have h3:=(hown'.lt b hb).2;rw[h] at hb;injection hb with hb;simp at hb h3 ⊢;omega
open Classical in
noncomputable def eC (t:Tr) (id:Int):List Int × Int:=if aM t then(if qQ t.brs id=0 then(bA t id,0) else([],qQ t.brs id)) else([],1)
def qO (r:List Int × Int) (w:World) (e:Ending) (w':World):Prop:=∃ v,e=.returned (.tuple #[v,.int .i64 r.2])∧w'.ownsRow w.heap.size 3 1 v r.1.length (r.1.flatMap eE)∧aA w w'
theorem qO.is_ {r:List Int × Int} {w:World} {e:Ending} {w':World} (h:qO r w e w'):aWv r w e w':=by
 obtain⟨v,h1,h2,h3⟩:=h;exact⟨v,h1,Rd.of_own h2,h3⟩
theorem aJe (rs:List Int) (l:List Br) (rv bv:Value) (w0:World) (hr:SlI w0 rv rs) (hv:bQ w0 bv l) (hf:l.length≤1000000) (hT:aM ⟨rs,l⟩) (id:Int) (hid:id=0∨∃ b,aE l id=some b) (B Tb Ib n:Nat) (w:World) (hO:lM B w) (hTb:∃ t,uF B w Tb (.cells #[rv,bv] t (0,0))) (hIb:w.cell? ⟨Ib,0,none⟩=some (.int .i64 id)) (hG:aA w0 w) :
  SeqStopsK Fence.wide n Tryz.prog 221 #[.pointer (some ⟨Tb,0,none⟩),.pointer (some ⟨Ib,0,none⟩)] (fun x:Int × Int=>#[Value.int .i64 x.1,Value.int .i64 x.2]) (KpB w0.heap.size B) (fun ys=>ys.map Prod.fst=bA ⟨rs,l⟩ id) (fun pre=>pre.map Prod.fst <+: bA ⟨rs,l⟩ id) (bA ⟨rs,l⟩ id).length w :=
 fun lp J Jx W hW hJa _ hY h0=>by
  have hgw:aA w W:=hW;refine callsIn_wide.2 ?_
  exact aXu rs l rv bv w0 hr hv hf hT B lp W.heap.size Tb (W.heap.size+1) (bA ⟨rs,l⟩ id).length J Jx (fun s A A' hj hg=>hJa s A A' none hj (dA hg none) (fun r e=>by cases e))
   (fun m pre x W1 hj hlt=>yO rfl m (hY pre x W1 hj hlt)) Ib id hid (Nat.le_refl _) W (hTb.imp fun t p=>p.kp (KpO.grew hO.1 hgw)) (uQ hgw hIb) (hO.kp (KpO.grew hO.1 hgw)) (hG.trans hgw) h0 rfl rfl
theorem rN (rs:List Int) (l:List Br) (id:Int) (rv bv:Value) (w:World) (hE:Env w) (hr:SlI w rv rs) (hv:bQ w bv l) (hf:cF l) (hrl:rs.length≤1000000) (hno:aM ⟨rs,l⟩→qQ l id≠0) :
  Calls Tryz.prog 136 #[.agg #[rv,bv],.int .i64 id] w (qO (eC ⟨rs,l⟩ id) w):=by
 have hO:=fun W (hW:aA w W) n hn=>aSw rs l id rv bv W (hE.mono hW) (hr.mono hW) (hv.mono hW) hf hrl n hn
 obtain⟨n,hz,hn,hres⟩:∃ n:Int,n≠0∧((¬ aM ⟨rs,l⟩→n=1)∧(aM ⟨rs,l⟩→n=qQ l id))∧eC ⟨rs,l⟩ id=([],n):=by
  by_cases hT:aM ⟨rs,l⟩
  ·refine⟨qQ l id,hno hT,⟨fun h=>absurd hT h,fun _=>rfl⟩,?_⟩
   unfold eC;rw[if_pos hT];show(if qQ l id=0 then(bA ⟨rs,l⟩ id,(0:Int)) else([],qQ l id))=_;rw[if_neg (hno hT)]
  ·refine⟨1,by decide,⟨fun _=>rfl,fun h=>absurd h hT⟩,?_⟩
   unfold eC;rw[if_neg hT]
 have KO:=uZ (fun W hW=>hO W hW n hn);rw[hres];have hz':(n != 0)=true:=by simpa using hz
 clear hE hr hv hf hrl hO hn hz hres hno;go_enter Tryz.func136,Tryz.ntmps136;go_wp2_with fail;refine(KO.out _ ((uX w).alloc _)).mono ?_;rintro e w1 ⟨rfl,g1⟩;dsimp only;go_wp2;go_ret2;exact⟨_,rfl,World.ownsRow_nil _ _ _ _,((uX w).alloc _).trans g1⟩
theorem aYd (rs:List Int) (l:List Br) (id:Int) (rv bv:Value) (w:World) (hE:Env w) (hr:SlI w rv rs) (hv:bQ w bv l) (hf:cF l) (hrl:rs.length≤1000000) (hlen:aM ⟨rs,l⟩→(bA ⟨rs,l⟩ id).length≤1000000) :
  Calls Tryz.prog 136 #[.agg #[rv,bv],.int .i64 id] w (qO (eC ⟨rs,l⟩ id) w):=by
 have hO:=fun W (hW:aA w W) n hn=>aSw rs l id rv bv W (hE.mono hW) (hr.mono hW) (hv.mono hW) hf hrl n hn
 by_cases hT:aM ⟨rs,l⟩
 case neg=>exact rN rs l id rv bv w hE hr hv hf hrl (fun h=>absurd h hT)
 have hn:(¬ aM ⟨rs,l⟩→qQ l id=1)∧(aM ⟨rs,l⟩→qQ l id=qQ l id):=⟨fun h=>absurd hT h,fun _=>rfl⟩
 have KO:=uZ (fun W hW=>hO W hW _ hn);by_cases hz:qQ l id=0
 case neg=>exact rN rs l id rv bv w hE hr hv hf hrl (fun _=>hz)
 have hres:eC ⟨rs,l⟩ id=(bA ⟨rs,l⟩ id,0):=by
  unfold eC;rw[if_pos hT,if_pos hz]
 have hstop:=fun B Tb Ib n w'=>aJe rs l rv bv w hr hv hf.1 hT id (sG hz) B Tb Ib n w'
 have hlen':=hlen hT;rw[hres];rw[hz] at KO;generalize bA ⟨rs,l⟩ id=L at hstop hlen' ⊢;have HS:=uZ hstop;have HLEN:=uZ hlen';obtain⟨i0,hi,hz0,hz1,hz2⟩:=info_parts lJ;clear hE hr hv hf hrl hO hn hz hres hT hlen hstop hlen';refine(callsIn_wide (n:=9)).1 ?_;refine callsIn_of_wp_marks Tryz.func136 rfl trivial ?_ rfl;simp only [Tryz.ntmps136,List.size_toArray,List.length_cons,List.length_nil,Nat.reduceAdd,Nat.reduceSub,Array.replicate_succ,Array.replicate_zero,List.push_toArray,List.append_toArray,List.nil_append,List.cons_append]
 gi_wp2_with fail
 refine⟨trivial,(callsIn_wide.2 (KO.out _ ((uX w).alloc _))).mono ?_⟩;rintro e w1 ⟨rfl,g1⟩;have b0:=yQ g1 0 _ rfl;have b1:=yQ g1 1 _ rfl;have HG1:=h_221;have c0:=uQ ((uX w1).alloc (.cells #[.slice none 0 0] 38)) b0;have c1:=uQ ((uX w1).alloc (.cells #[.slice none 0 0] 38)) b1;clear g1 b0 b1;dsimp only
 gi_wp2_with fail
 refine⟨trivial,(callsIn_wide.2 (bCe rv bv id _)).mono ?_⟩;rintro e w2 ⟨rfl,hw2⟩;dsimp only
 gi_wp2_with fail
 have hOB:lM w1.heap.size w2:=by
  rw[← hw2];refine⟨by simp;omega,fun v hv b hb=>?_⟩;rw[World.cell?_alloc_lt _ _ _ b_50,World.cell?_alloc_lt _ _ _ b_54] at hv;rw[(Boxed.new w1 38 (.slice none 0 0)).cell] at hv;obtain rfl:=Option.some.inj hv;simp[Value.ownBlock] at hb
 have hO1:lM w1.heap.size (w1.alloc (.cells #[.slice none 0 0] 38)):=⟨by simp,fun v hv b hb=>by
  rw[(Boxed.new w1 38 (.slice none 0 0)).cell] at hv;obtain rfl:=Option.some.inj hv
  simp[Value.ownBlock] at hb⟩
 have hPT:uF w1.heap.size w2 (w1.alloc (.cells #[.slice none 0 0] 38)).heap.size (.cells #[rv,bv] 43 (0,0)):=by
  rw[← hw2];exact(uF.new hO1 rfl).kp (KpO.grew b_50 ((uX _).alloc _))
 have hCI:w2.cell? ⟨(w1.alloc (.cells #[.slice none 0 0] 38)).heap.size+1,0,none⟩=some (.int .i64 id):=by
  rw[← hw2];exact(yD _ _ _ _).1
 have hBX:Boxed w2 w1.heap.size 38 (.slice none 0 0):=by
  rw[← hw2];exact((Boxed.new w1 _ _).alloc _).alloc _
 have hG2:aA w w2:=by
  rw[← hw2];exact((HG1.out.alloc _).alloc _).alloc _
 have hs12:w1.heap.size<w2.heap.size:=hOB.1;have hs1:w.heap.size≤w1.heap.size:=HG1.out.size;have hst:=HS.out w1.heap.size (w1.alloc (.cells #[.slice none 0 0] 38)).heap.size ((w1.alloc (.cells #[.slice none 0 0] 38)).heap.size+1) 8 w2 hOB ⟨_,hPT⟩ hCI hG2;generalize (w1.alloc (.cells #[.slice none 0 0] 38)).heap.size=Tb at hst ⊢;have hlen:=HLEN.out;clear hw2 hPT hCI hO1 c0 c1
 refine wpIn_rangeFunc_ownG rfl b_53 (gf:=221) (lb:=#[.pointer (some ⟨Tb,0,none⟩),.pointer (some ⟨Tb+1,0,none⟩)]) rfl trivial (enters_of Tryz.func221 (by kernel_rfl) rfl)
  hst KpB.trans (aVn hG2.size hs12) (Below.refl _ _) (fun _=>rfl)
  (fun pre W=>(∃ v,Boxed W w1.heap.size 38 v∧W.ownsRow w.heap.size 3 1 v pre.length ((pre.map Prod.fst).flatMap eE)∧(v=.slice none 0 0↔pre=[]))∧Below w.heap.size w W)
  (fun _ _ _=>False)
  (OwnFrom.and (Own.from (holdsRow_own w.heap.size w1.heap.size 38 3 1 (fun pre:List (Int × Int)=>pre.length) (fun pre=>(pre.map Prod.fst).flatMap eE) (fun pre v=>v=.slice none 0 0↔pre=[])) _) (ownFrom_below (Nat.le_refl _) hG2.size))
  (fun _ _ _ _ _ hs _ _=>hs)
  ⟨⟨_,hBX,World.ownsRow_nil _ _ _ _,by simp⟩,hG2⟩
  (fun x=>{ tmps:=#[.agg #[rv,bv],.int .i64 id,.pointer (some ⟨w.heap.size,0,none⟩),undef,.slice none 0 0,.int .i64 0,.int .i64 0,.pointer (some ⟨w1.heap.size,0,none⟩),.int .i64 x.1,.agg #[rv,bv],.int .i64 id,.int .i64 0,.int .i64 0,.bool false,undef,.agg #[rv,bv],.int .i64 id,.func (.func 221) #[] #[.pointer (some ⟨Tb,0,none⟩),.pointer (some ⟨Tb+1,0,none⟩)],.int .i64 x.1,.int .i64 x.2,undef,undef,undef,undef,undef],defers:=[] }) ?assign ?body ?done ?stop
 case assign =>
  intro l x W K hK
  gi_wp2
  exact hK
 case body =>
  rintro l pre x W ⟨⟨v,hv,hrow,hnil⟩,hB⟩ hlt;have hc:=hv.cell
  gi_wp2_with (gi_at_builtin;refine wpListIn_append_own_at _ rfl _ _ 38 rfl w.heap.size 3 i0 (.int .i64 0) 1 8 Tryz.underlying38 hi hz0 hz1 hz2 rfl b_52 _ _ _ rfl (hrow.alloc _) ⟨W.heap.size,0,none⟩ 1 1 [Value.int .i64 x.1] rfl rfl (cell_one_new _ _ _) b_45 b_47 b_53 (by have:=hB.size;simp;omega) ?_;intro v' w1' hown' hgrow _ hloc;have hkp:=aHs hv b_52 hrow hown' hgrow hloc;obtain⟨g',cap',rfl⟩:=ownsRow_succ hown';obtain⟨hv1,hv2,hr2,hk2,hb2⟩:=hv.appended b_52 hrow hB.size hs1 hown' hgrow;have hc1:=hv1.cell;have hf1:=hv1.frozen)
  exact⟨hk2.from _,⟨hb2,hkp⟩,⟨_,hv2,by simpa [eE] using hr2,by simp⟩,hB.trans hb2⟩
 case done =>
  rintro D ys W hD rfl ⟨⟨v,hv,hrow,hnil⟩,hB⟩ hK;have hc:=hv.cell
  gi_wp2
  refine⟨by simp,.inl ⟨_,_,rfl,run_takeDeferred hK,?_⟩⟩;refine⟨_,results_tmp2 rfl _ _ _,v,rfl,?_,hB.trans (belowK_b (w:=w) (Nat.le_refl _) W D _ _ b_53 hK rfl rfl)⟩;have:=ownsRow_putObj hrow (.deferred none) hK rfl;simpa using this
 case stop =>
  rintro D c pre W _ _ h _;exact h.elim
end Go.Proofs.YtdochkemaiokfaaGreat
namespace Go.Proofs.YtdochkemaiokfaaGreat
open Go.RowKit Go.Shelf
structure KpN (n₀:Nat) (W W':World):Prop where
 below:Below n₀ W W'
 cells:∀(k:Nat) (o:Obj),W.heap[k]? = some o→o.isCells=true→W'.heap[k]? = some o
theorem KpN.refl (n₀:Nat) (W:World):KpN n₀ W W:=⟨Below.refl _ _,fun _ _ h _=>h⟩
theorem KpN.trans {n₀:Nat} {A B C:World} (h:KpN n₀ A B) (k:KpN n₀ B C):KpN n₀ A C:=⟨h.below.trans k.below,fun i o ho hc=>k.cells i o (h.cells i o ho hc) hc⟩
theorem KpN.grew {n₀:Nat} {W W':World} (hn:n₀≤W.heap.size) (h:aA W W'):KpN n₀ W W' :=
 ⟨h.below.mono hn,fun k o ho _=>by rw[h.block k (Array.getElem?_eq_some_iff.1 ho).1];exact ho⟩
theorem KpN.put {n₀:Nat} {W:World} {l:Nat} {L L':Loop} (hl:n₀≤l) (h:W.heap[l]? = some (.loop L)):KpN n₀ W (W.putObj l (.loop L')):=by
 have hg:=grownBy_putObj' W l (.loop L');refine⟨(Below.refl n₀ W).grown hg (by have:=(Array.getElem?_eq_some_iff.1 h).1;omega) (fun k e=>by cases e;exact hl),fun k o ho hc=>?_⟩;rw[hg.block k (Array.getElem?_eq_some_iff.1 ho).1 (fun e=>?_)]
 ·exact ho
 ·cases e
  rw[h] at ho;cases ho;cases hc
def aTx {β:Type} (X B:Nat) (I:β→World→Prop):Prop:=∀ s W W' row,I s W→W.grownBy W' row→(∀ r,row=some r→r=X∨B≤r)→I s W'
structure mP (D:Nat) (L:Loop) (W:World):Prop where
 loop:W.heap[D+1]? = some (.loop L)
 defd:W.heap[D]? = some (.deferred (some []))
theorem mP.others {D:Nat} {L:Loop} {W W':World} (h:mP D L W) (k:KeepsOthers W W'):mP D L W':=⟨k.same _ _ h.loop rfl,k.same _ _ h.defd rfl⟩
theorem mP.put {D:Nat} {L:Loop} {W:World} (h:mP D L W) (L':Loop):mP D L' (W.putObj (D+1) (.loop L')) :=
 ⟨World.putObj_heap_same (Array.getElem?_eq_some_iff.1 h.loop).1,(World.putObj_heap_other b_53).trans h.defd⟩
theorem mP.grown {D X:Nat} {L:Loop} {W W':World} (h:mP D L W) (hX:X<D) (g:W.grownBy W' (some X)):mP D L W' :=
 ⟨(g.block _ (Array.getElem?_eq_some_iff.1 h.loop).1 (fun e=>by cases e;omega)).trans h.loop,(g.block _ (Array.getElem?_eq_some_iff.1 h.defd).1 (fun e=>by cases e;omega)).trans h.defd⟩
def aUw (fn:FuncId) (tmps:Array Value) (ps:Array Tmp) (assign body:Code) (D:Nat) (st:LoopState) (pe:Option Code):Loop:={ state:=st,pending:=pe,fn,tmps,params:=ps,assign,body,defers:=D }
theorem aTx.put {β:Type} {X B:Nat} {I:β→World→Prop} (h:aTx X B I) {s:β} {W:World} {l:Nat} (o:Obj) (hs:I s W) (hl:B≤l):I s (W.putObj l o) :=
 h s W _ (some l) hs (grownBy_putObj' W l o) (fun r e=>by cases e;exact .inr hl)
def KpX (X:Nat) (W W':World):Prop:=W'.heap[X]? = W.heap[X]?
theorem KpX.refl (X:Nat) (W:World):KpX X W W:=rfl
theorem KpX.trans {X:Nat} {A B C:World} (h:KpX X A B) (k:KpX X B C):KpX X A C:=Eq.trans k h
theorem KpX.put {X:Nat} {W:World} {l:Nat} (o:Obj) (hl:X≠l):KpX X W (W.putObj l o):=World.putObj_heap_other hl
theorem KpX.grew {X:Nat} {W W':World} (hX:X<W.heap.size) (h:aA W W'):KpX X W W':=h.block X hX
theorem aAf (W:World) (b o:Nat) (v:Value):W.grownBy (W.setCell ⟨b,o,none⟩ v) (some b) :=
 ⟨rfl,rfl,rfl,by simp,fun k _ hne=>Below.heap_setCell _ _ _ _ (fun e=>hne (by rw[e]))⟩
structure KpS (n₀ B:Nat) (X:Nat→Prop) (W W':World):Prop where
 below:Below n₀ W W'
 cells:∀(k:Nat) (o:Obj),k<B→¬ X k→W.heap[k]? = some o→o.isCells=true→W'.heap[k]? = some o
 maps:∀(k:Nat) (es:Array MapEntry) (c:Nat),W.heap[k]? = some (.map es c)→W'.heap[k]? = some (.map es c)
theorem KpS.refl (n₀ B:Nat) (X:Nat→Prop) (W:World):KpS n₀ B X W W:=⟨Below.refl _ _,fun _ _ _ _ h _=>h,fun _ _ _ h=>h⟩
theorem KpS.trans {n₀ B:Nat} {X:Nat→Prop} {W0 W1 W2:World} (h:KpS n₀ B X W0 W1) (k:KpS n₀ B X W1 W2):KpS n₀ B X W0 W2:=⟨h.below.trans k.below,fun i o hi hx ho hc=>k.cells i o hi hx (h.cells i o hi hx ho hc) hc,fun i es c ho=>k.maps i es c (h.maps i es c ho)⟩
theorem KpS.put {n₀ B:Nat} {X:Nat→Prop} {W:World} {l:Nat} {L L':Loop} (hl:n₀≤l) (h:W.heap[l]? = some (.loop L)):KpS n₀ B X W (W.putObj l (.loop L')):=by
 refine⟨(Below.refl n₀ W).grown (grownBy_putObj' W l _) (by have:=(Array.getElem?_eq_some_iff.1 h).1;omega) (fun k e=>by cases e;exact hl),fun k o _ _ ho hc=>?_,fun k es c ho=>?_⟩
 ·rw[World.putObj_heap_other (fun e=>?_)]
  ·exact ho
  ·subst e
   rw[h] at ho;cases ho;cases hc
 ·rw[World.putObj_heap_other (fun e=>?_)]
  ·exact ho
  ·subst e
   rw[h] at ho;cases ho
theorem KpS.grew {n₀ B:Nat} {X:Nat→Prop} {W W':World} (hn:n₀≤W.heap.size) (h:aA W W'):KpS n₀ B X W W' :=
 ⟨h.below.mono hn,fun k o _ _ ho _=>by rw[h.block k (Array.getElem?_eq_some_iff.1 ho).1];exact ho,fun k es c ho=>by rw[h.block k (Array.getElem?_eq_some_iff.1 ho).1];exact ho⟩
theorem KpS.set {n₀ B:Nat} {X:Nat→Prop} {W:World} {b o:Nat} (v:Value) (hn:n₀≤b) (hb:X b∨B≤b) (hc:∃ cs t fr,W.heap[b]? = some (.cells cs t fr)):KpS n₀ B X W (W.setCell ⟨b,o,none⟩ v):=by
 obtain⟨cs,t,fr,hc⟩:=hc;refine⟨(Below.refl n₀ W).grown (aAf W b o v) (by have:=(Array.getElem?_eq_some_iff.1 hc).1;omega) (fun k e=>by cases e;exact hn),fun k ob hk hx ho _=>?_,fun k es c ho=>?_⟩
 ·rw[Below.heap_setCell _ _ _ _ (fun e=>?_)]
  ·exact ho
  ·subst e
   rcases hb with hb|hb
   ·exact hx hb
   ·exact absurd hb (by show ¬ B≤k;omega)
 ·rw[Below.heap_setCell _ _ _ _ (fun e=>?_)]
  ·exact ho
  ·subst e
   rw[show W.heap[k]? = some (.cells cs t fr) from hc] at ho;cases ho
def SeqStopsS {α:Type} (F:Fence) (n:Nat) (P:Program) (g:Nat) (lb:Array Value) (encs:α→Array Value) (n₀ B:Nat) (X:Nat→Prop) (S Sp:List α→Prop) (w:World):Prop :=
 ∀(l:Nat) (J Jx:List α→World→Prop) (W:World),aA w W→(∀ s W1 W2,J s W1→aA W1 W2→J s W2)→(∀ s W1 W2,Jx s W1→aA W1 W2→Jx s W2) →
  (∀ pre x W1,J pre W1→Sp (pre++[x])→YieldAt F (n-1) P l (encs x) W1 fun e W' =>
   (e=.returned (.bool true)∧J (pre++[x]) W'∧KpS n₀ B X W1 W')∨(e=.returned (.bool false)∧Jx (pre++[x]) W')) →
  J [] W →
  CallsIn F n P g (#[.func (.yield l) #[] #[]]++lb) W fun e W'=>(∃ v,e=.returned v)∧((∃ xs,S xs∧J xs W')∨(∃ pre,Sp pre∧Jx pre W'))
def aOk {β:Type} (B:Nat) (I:β→World→Prop):Prop:=∀ s W W' row,I s W→W.grownBy W' row→(∀ r,row=some r→B≤r∧∀ o,W.heap[r]? = some o→o.isCells=false)→I s W'
theorem mP.grew {D:Nat} {L:Loop} {W W':World} (h:mP D L W) (g:aA W W'):mP D L W' :=
 ⟨(g.block _ (Array.getElem?_eq_some_iff.1 h.loop).1).trans h.loop,(g.block _ (Array.getElem?_eq_some_iff.1 h.defd).1).trans h.defd⟩
theorem nV {α:Type} {F:Fence} {n:Nat} {P:Program} {g:Operand} {ps:Array Tmp} {assign body:Code} {Q:Exit→Act→World→Prop} {a:Act} {w:World}
  (hro:F.round=none) (h1:1≤n) {gf:Nat} {lb:Array Value} (hg:a.eval g=.func (.func gf) #[] lb) (hFg:F.fn gf) (eg:∀ args w,(callFunc gf args).run P w=.ok (.enter gf args) w)
  {encs:α→Array Value} {n₀:Nat} {X:Nat→Prop} {S Sp:List α→Prop} (hn:n₀≤w.heap.size) (hseq:SeqStopsS F (n-1) P gf lb encs n₀ w.heap.size X S Sp w) (hps:∀ x,(encs x).size=ps.size)
  (I:List α→World→Prop) (Ix:Code→List α→World→Prop) (hI:aOk w.heap.size I) (hIx:∀ c,aOk w.heap.size (Ix c)) (h0:I [] w) (Ax:α→Act→World→Prop) (hAx:∀ x a',aOk w.heap.size (fun(_:Unit) W=>Ax x a' W))
  (hassign:∀(l:Nat) (x:α) (W:World) (K:Act→World→Prop),w.heap.size≤W.heap.size→(∀ a' W',aA W W'→Ax x a' W'→K a' W') →
   assign.wpIn (F.inRound l) (n-1-1) P (Exit.then K (fun _ _ _=>False)) { tmps:=(ps.zip (encs x)).foldl (fun t (p,v)=>t.setIfInBounds p v) a.tmps,defers:=[] } W)
  (hbody:∀(l:Nat) (pre:List α) (x:α) (a':Act) (W:World),I pre W→Ax x a' W→Sp (pre++[x])→body.wpIn (F.inRound l) (n-1-1) P (ownPostK (KpS n₀ w.heap.size X) I Ix (pre++[x]) W) a' W)
  (hdone:∀(D:Nat) (xs:List α) (W:World),w.heap.size≤D→S xs→I xs W→W.heap[D]? = some (.deferred (some []))→Q .normal { a with defers:={ target:=.collected D,args:=#[] } :: a.defers } W)
  (hstop:∀(D:Nat) (c:Code) (pre:List α) (W:World),w.heap.size≤D→Sp pre→Ix c pre W→W.heap[D]? = some (.deferred (some []))→c.wpIn F n P Q { a with defers:={ target:=.collected D,args:=#[] } :: a.defers } W) :
  (Code.rangeFunc g ps assign body).wpIn F n P Q a w:=by
 refine wpIn_rangeFunc fun fn hfn=>?_
 rw[hro];obtain⟨D,hD⟩:∃ D,D=w.heap.size:=⟨_,rfl⟩
 obtain⟨R,hR⟩:∃ R,R=aUw fn a.tmps ps assign body D:=⟨_,rfl⟩
 obtain⟨W1,hW1⟩:∃ W1,W1=(w.alloc (.deferred (some []))).alloc (.loop (R .ready none)):=⟨_,rfl⟩
 have hg1:aA w W1:=by rw[hW1];exact((uX w).alloc _).alloc _
 have hrec:mP D (R .ready none) W1:=by
  refine⟨?_,?_⟩
  ·rw[hW1,hD]
   have:=World.alloc_heap_new (w.alloc (.deferred (some []))) (.loop (R .ready none))
   rwa [World.size_alloc] at this
  ·rw[hW1,hD]
   exact(Below.heap_alloc _ _ _ b_54).trans (World.alloc_heap_new w _)
 have hI1:I [] W1:=hI [] w W1 none h0 (dA hg1 none) (fun r e=>by cases e);rw[← hD] at hn hseq hI hIx hAx hassign hbody hdone hstop;have pI:∀ {s:List α} {W:World} {L L':Loop},I s W→W.heap[D+1]? = some (.loop L)→I s (W.putObj (D+1) (.loop L')):=fun {s W L L'} h hl=>hI s W _ (some (D+1)) h (grownBy_putObj' W _ _) (fun r e=>by cases e;exact⟨Nat.le_succ D,fun o ho=>by rw[hl] at ho;cases ho;rfl⟩)
 have pX:∀ {c:Code} {s:List α} {W:World} {L L':Loop},Ix c s W→W.heap[D+1]? = some (.loop L)→Ix c s (W.putObj (D+1) (.loop L')):=fun {c s W L L'} h hl=>hIx c s W _ (some (D+1)) h (grownBy_putObj' W _ _) (fun r e=>by cases e;exact⟨Nat.le_succ D,fun o ho=>by rw[hl] at ho;cases ho;rfl⟩)
 refine⟨D+1,[{ target:=.collected D,args:=#[] }],W1,{ target:=.fn (.func gf) lb,args:=#[.func (.yield (D+1)) #[] #[]] },W1,gf,#[.func (.yield (D+1)) #[] #[]]++lb,W1,?_,?_,?_,?_,fun _=>h1,?_⟩
 ·rw[hW1,hR,hD]
  exact run_enterLoop_outer _ _ _ _ _
 ·simp only [resolve,hg]
  simp[go_sem]
 ·intro f' hf'
  simp[Target.leads] at hf';subst hf';exact hFg
 ·simp[invoke,go_sem,eg]
 ·refine(hseq (D+1) (fun pre W=>I pre W∧mP D (R .ready none) W) (fun pre W=>∃ c,Ix c pre W∧mP D (R .done (some c)) W) W1 hg1
   (fun s A B h k=>⟨hI s A B none h.1 (dA k none) (fun r e=>by cases e),h.2.grew k⟩)
   (fun s A B h k=>h.imp fun c hc=>⟨hIx c s A B none hc.1 (dA k none) (fun r e=>by cases e),hc.2.grew k⟩) ?_ ⟨hI1,hrec⟩).mono ?_
  ·rintro pre x W ⟨hi,hr⟩ hlen
   have hy:=run_yield (P:=P) (args:=encs x) hr.loop (by rw[hR];exact hps x);rw[hR] at hy;refine⟨fn,_,assign,body,hy,roundIn_of_wpIn hfn (hassign _ x W _ (by have:=(Array.getElem?_eq_some_iff.1 hr.loop).1;omega) ?_)⟩;intro a' W2 hg2 hax;have hr1:=hr.grew hg2;have hi1:I pre W2:=hI pre W W2 none hi (dA hg2 none) (fun r e=>by cases e);refine⟨_,run_beginRound hr1.loop (by rw[hR];rfl),?_⟩;have hr2:=hr1.put (R .busy none);have hk2:KpS n₀ D X W (W2.putObj (D+1) (.loop (R .busy none))):=(KpS.grew (by have:=(Array.getElem?_eq_some_iff.1 hr.loop).1;omega) hg2).trans (KpS.put b_53 hr1.loop);have hax2:Ax x a' (W2.putObj (D+1) (.loop (R .busy none))):=hAx x a' () W2 _ (some (D+1)) hax (grownBy_putObj' W2 _ _) (fun r e=>by cases e;exact⟨Nat.le_succ D,fun o ho=>by rw[hr1.loop] at ho;cases ho;rfl⟩);have hb:=hbody (D+1) pre x a' _ (pI (L':=R .busy none) hi1 hr1.loop) hax2 hlen;have he:({ R .ready none with state:=.busy }:Loop)=R .busy none:=by rw[hR];rfl
   rw[he];refine wpIn_mono hb ?_
   have fin:∀(jump:Option Code) (W3:World),KeepsOthers (W2.putObj (D+1) (.loop (R .busy none))) W3 →
     (Instr.endRound (D+1) jump).run P W3=.ok (.bool jump.isNone) (W3.putObj (D+1) (.loop (R (if jump.isNone then .ready else .done) jump)))∧mP D (R .busy none) W3∧mP D (R (if jump.isNone then .ready else .done) jump) (W3.putObj (D+1) (.loop (R (if jump.isNone then .ready else .done) jump))):=fun jump W3 hk=>by
    have hr3:=hr2.others hk;have:=run_endRound (P:=P) jump hr3.loop;refine⟨?_,hr3,hr3.put _⟩;rw[this,hR];rfl
   rintro e a3 W3 hp
   cases e with
   | normal =>
    obtain⟨hk3,hkp3,hi3⟩:=hp;obtain⟨h3,h4,h5⟩:=fin none W3 hk3;exact⟨_,_,h3,.inl ⟨rfl,⟨pI hi3 h4.loop,h5⟩,(hk2.trans hkp3).trans (KpS.put b_53 h4.loop)⟩⟩
   | ret =>
    obtain⟨hk3,hi3⟩:=hp;obtain⟨h3,h4,h5⟩:=fin (some .ret) W3 hk3;exact⟨_,_,h3,.inr ⟨rfl,_,pX hi3 h4.loop,h5⟩⟩
   | exit id =>
    obtain⟨hk3,hi3⟩:=hp;obtain⟨h3,h4,h5⟩:=fin (some (.exit id)) W3 hk3;exact⟨_,_,h3,.inr ⟨rfl,_,pX hi3 h4.loop,h5⟩⟩
   | goto t =>
    obtain⟨hk3,hi3⟩:=hp;obtain⟨h3,h4,h5⟩:=fin (some (.goto t)) W3 hk3;exact⟨_,_,h3,.inr ⟨rfl,_,pX hi3 h4.loop,h5⟩⟩
   | panic ch=>exact hp.elim
   | outgrown=>exact hp.elim
  ·rintro e W2 ⟨⟨v,rfl⟩,(⟨xs,hS,hi,hr⟩|⟨pre,hSp,c,hi,hr⟩)⟩
   ·have:=run_endLoop (P:=P) hr.loop (by rw[hR];simp[aUw])
    exact⟨none,_,by rw[this,hR];rfl,hdone D xs _ b_53 hS (pI hi hr.loop) ((World.putObj_heap_other b_53).trans hr.defd)⟩
   ·have:=run_endLoop (P:=P) hr.loop (by rw[hR];simp[aUw])
    exact⟨some c,_,by rw[this,hR];rfl,hstop D c pre _ b_53 hSp (pX hi hr.loop) ((World.putObj_heap_other b_53).trans hr.defd)⟩
end Go.Proofs.YtdochkemaiokfaaGreat

