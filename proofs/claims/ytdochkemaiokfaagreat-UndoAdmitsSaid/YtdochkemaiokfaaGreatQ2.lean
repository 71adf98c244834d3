/- Lemmas on what the functions of the program and of the library compute: IdxR, A2, PlainT, Gr, T1, T2, T3, SeqI, SortI. The conditions stand at each. -/
import Derived.Test.YtdochkemaiokfaaGreatProg
import Derived.Test.YtdochkemaiokfaaGreatQ1
import Derived.BigQuiet
import Derived.RangeFuncBox
import Derived.RangeFuncLeaves
import Derived.OwnWalkIn
import Derived.TacticsInMore
import Derived.LoopNIn
import Derived.LoopIn
import Derived.Maps.AppendAt
set_option maxHeartbeats 16000000
set_option maxRecDepth 100000
set_option linter.all false
namespace Go.Proofs.YtdochkemaiokfaaGreat
open Go.RowKit
theorem c_44 {p:Prop} (h:p:=by
 cases hq:p y with
 | true =>
  rw[hq] at hcall;go_wp2_with (go_at_fn g;refine hcall.mono ?_;rintro e w' ⟨rfl,hb'⟩)
  go_ret;refine⟨?_,BW.out.trans hb'⟩;rw[eW p l kk hlt (by rw[B.out];exact hq) M.out];rfl
 | false =>
  rw[hq] at hcall;go_wp2_with (go_at_fn g;refine hcall.mono ?_;rintro e w' ⟨rfl,hb'⟩)
  go_roundg (l.length-(kk+1))
  case measure=>omega
  case rel =>
   refine⟨kk+1,by omega,by omega,by go_num,BW.out.trans hb',(show Aside _ from fun i hi h=>?_)⟩;by_cases e:i=kk
   ·subst e
    rw[B.out];exact hq
   ·exact M.out i hi b_53
):p:=h
theorem c_113 {p:Prop} (h:p:=by
 go_wp2;go_ret;refine⟨?_,BW.out⟩;rw[eA p l (fun i hi=>M.out i hi b_53)];rfl
):p:=h
theorem h_196 {p:Prop} (h:p:=by
 exact HP.out wr l[kk] BW.out (List.getElem_mem hlt)
):p:=h
theorem h_201 {p:Prop} (h:p:=by
 exact(show(kk:Int)<(l.length:Int) from by omega)
):p:=h
theorem aHv (l:List Int) (p:Int→Bool) (g:Nat) (lb:Array Value) (eg:∀ args w,(callFunc g args).run Tryz.prog w=.ok (.enter g args) w) (v:Value) (w:World) (hv:SlI w v l)
  (hp:∀ W x,aA w W→x∈l→Calls Tryz.prog g (#[(.int .i64 x)]++lb) W fun e w'=>e=.returned (.bool (p x))∧aA W w') :
  Calls Tryz.prog 226 #[v,.func (.func g) #[] lb] w fun e w'=>e=.returned (.int .i64 (lL p l))∧aA w w':=by
 obtain⟨A,c,rfl,hlc,hc,hr⟩:=hv.open_;unfold maxLen at hc;have HR:=uZ hr;have HP:=uZ hp;clear hr hp hv;go_enter Tryz.func226,Tryz.ntmps226;go_wp2;go_loopg [5,8] l.length (fun gg _ s8 wr=>∃ kk:Nat,kk≤l.length∧l.length-kk≤gg∧s8=.int .i64 kk∧Aside (aA w wr)∧Aside (∀ i (hi:i<l.length),i<kk→p l[i]=false))
 case atStart=>exact⟨0,Nat.zero_le _,by omega,rfl,uX w,fun i hi h=>absurd h (Nat.not_lt_zero _)⟩
 case round =>
  obtain⟨kk,hkk,hg,rfl,BW,M⟩:=hrel;by_cases hlt:kk<l.length
  ·obtain⟨b,off,rfl,hb,hcell⟩:=HR.out b_53
   obtain c0:=hcell wr BW.out kk hlt;have hcall:=h_196;have hltz:=h_201;clear hcell;generalize hy:l[kk]=y at c0 hcall;have B:Aside (l[kk]=y):=hy;clear hy;exact c_44
  ·have hltz:¬ (kk:Int)<(l.length:Int):=by omega
   exact c_113
theorem qH (l:List BrC) (p:BrC→Bool) (g:Nat) (lb:Array Value) (eg:∀ args w,(callFunc g args).run Tryz.prog w=.ok (.enter g args) w) (v:Value) (w:World) (hv:SlB w v l)
  (hp:∀ W x,aA w W→x∈l→Calls Tryz.prog g (#[x.agg]++lb) W fun e w'=>e=.returned (.bool (p x))∧aA W w') :
  Calls Tryz.prog 77 #[v,.func (.func g) #[] lb] w fun e w'=>e=.returned (.int .i64 (lL p l))∧aA w w':=by
 obtain⟨A,c,rfl,hlc,hc,hr⟩:=hv.open_;unfold maxLen at hc;have HR:=uZ hr;have HP:=uZ hp;clear hr hp hv;go_enter Tryz.func77,Tryz.ntmps77;go_wp2;go_loopg [5,8] l.length (fun gg _ s8 wr=>∃ kk:Nat,kk≤l.length∧l.length-kk≤gg∧s8=.int .i64 kk∧Aside (aA w wr)∧Aside (∀ i (hi:i<l.length),i<kk→p l[i]=false))
 case atStart=>exact⟨0,Nat.zero_le _,by omega,rfl,uX w,fun i hi h=>absurd h (Nat.not_lt_zero _)⟩
 case round =>
  obtain⟨kk,hkk,hg,rfl,BW,M⟩:=hrel;by_cases hlt:kk<l.length
  ·obtain⟨b,off,rfl,hb,hcell⟩:=HR.out b_53
   obtain⟨c0,c1,c2,c3,c4,c5⟩:=hcell wr BW.out kk hlt;have hcall:=h_196;have hltz:=h_201;clear hcell;generalize hy:l[kk]=y at c0 c1 c2 c3 c4 c5 hcall;have B:Aside (l[kk]=y):=hy;clear hy;unfold BrC.agg at hcall;exact c_44
  ·have hltz:¬ (kk:Int)<(l.length:Int):=by omega
   exact c_113
def bM (P:Prop) (w:World) (e:Ending) (w':World):Prop:=∃ n:Int,e=.returned (.int .i64 n)∧(n=0↔P)∧aA w w'
theorem bM.no {P:Prop} {w w':World} (n:Int) (hn:n≠0) (h:¬ P) (hg:aA w w'):bM P w (.returned (.int .i64 n)) w':=⟨n,rfl,⟨fun e=>absurd e hn,fun e=>absurd e h⟩,hg⟩
theorem bM.yes {P:Prop} {w w':World} (h:P) (hg:aA w w'):bM P w (.returned (.int .i64 0)) w':=⟨0,rfl,⟨fun _=>h,fun _=>rfl⟩,hg⟩
theorem yQ {w W:World} {cs:List Value} {t:TypeId} (h:aA (w.alloc (.cells cs.toArray t)) W) (j:Nat) (v:Value) (hj:cs[j]? = some v):W.cell? ⟨w.heap.size,j,none⟩=some v:=by
 have hlast:(w.alloc (.cells cs.toArray t)).heap[w.heap.size]? = some (.cells cs.toArray t):=heap_alloc_last w _;rw[h.cell (p:=⟨w.heap.size,j,none⟩) b_54,cell_of_row _ _ _ _ _ _ hlast];simpa using hj
def aE (l:List Br) (id:Int):Option Br:=l.find? fun b=>b.id == id
def aSb (l:List Br) (id:Int):Int:=lL (fun b=>b.id == id) l
def fX (p c:Int):Bool:=aN p 1 4 && (aN c 1 4 && (decide (p<c) || (p == 2 && c == 2)))
def sW (l:List Br) (i:Nat) (m:ByteArray):Prop:=m.toList.isEmpty=false→jP m.data.toList=true∧(l.take i).any (fun b=>b.mark.toList == m.toList)=false
def cB (l:List Br) (i:Nat) (h:i<l.length):Prop :=
 aN l[i].id 1 1073741824=true∧aN l[i].level 1 4=true∧(0<i→(l[i-1]'b_53).id<l[i].id)∧fB l[i].title.data.toList=true∧sW l i l[i].mark
def aX (l:List Br) (b:Br):Prop:=if b.parent=0 then b.level=1 else ∃ p,aE l b.parent=some p∧b.level≠1∧fX p.level b.level=true
def bH (l:List Br) (id:Int):List Int:=(l.filter fun b=>b.parent == id).map Br.id
def sortI (l:List Int):List Int:=l.mergeSort fun x y=>decide (x≤y)
def dJ (l:List Br):Nat→Br→Option Nat
 | 0,b=>if b.parent=0 then some 1 else none
 | n+1,b=>if b.parent=0 then some 1 else match aE l b.parent with
  | none=>none
  | some p=>(dJ l n p).map (· + 1)
def eD (l:List Br) (b:Br):Prop:=∃ d,dJ l l.length b=some d∧d≤12
def aM (t:Tr):Prop:=t.brs.length≤256∧(∀ i (h:i<t.brs.length),cB t.brs i h)∧(∀ i (h:i<t.brs.length),aX t.brs t.brs[i])∧(∀ i (h:i<t.brs.length),sortI t.brs[i].kids=bH t.brs t.brs[i].id) ∧
 sortI t.roots=bH t.brs 0∧∀ i (h:i<t.brs.length),eD t.brs t.brs[i]
theorem aIo {l:List Br} {id:Int} (h:aE l id=none):aSb l id=-1:=by
 refine eA _ l (fun i hi=>?_);have:=List.find?_eq_none.1 h l[i] (List.getElem_mem hi);simpa using this
theorem gK {l:List Br} {id:Int} {b:Br} (h:aE l id=some b):∃ k,∃ hk:k<l.length,aSb l id=(k:Int)∧l[k]=b:=by
 obtain⟨hb,k,hk,e,hbef⟩:=List.find?_eq_some_iff_getElem.1 h;refine⟨k,hk,eW _ l k hk (by rw[e];exact hb) (fun i hi hik=>by simpa using hbef i hik),e⟩
structure Gr (w:World) where
 W:World
 g:aA w W
instance (w:World):Nonempty (Gr w):=⟨⟨w,uX w⟩⟩
instance (w:World):Inhabited (Gr w):=⟨⟨w,uX w⟩⟩
theorem dD {P:Program} {id:Nat} {Q:Exit→Act→World→Prop} {a:Act} {w:World} {l:List Oper} (w0:World) (hm:P.follows .mixedOrders=true) (hB:Region.lexB .any l.toArray=true) (hg:aA w0 w)
  (h:wpQuiet P l.toArray (fun W'=>∃ i:Gr w0,W'=i.W) (fun a'=>∀ W',(∃ i:Gr w0,W'=i.W)→Q .normal a' W') l a):(Code.region id l.toArray true).wp P Q a w :=
 wp_region_quiet (C:=fun W'=>∃ i:Gr w0,W'=i.W) hm hB ⟨⟨w.drew,hg.drew⟩,rfl⟩ b_49
theorem Gr.calls {P:Program} {f:FuncId} {args:Array Value} {w0:World} (i:Gr w0) {v:Value} (h:Calls P f args i.W fun e w'=>e=.returned v∧aA i.W w'):Calls P f args i.W fun e w''=>e=.returned v∧∃ j:Gr w0,w''=j.W :=
 h.mono fun _ w' ⟨he,hg⟩=>⟨he,⟨w',i.g.trans hg⟩,rfl⟩
theorem Gr.same {P:Program} {f:FuncId} {args:Array Value} {w0:World} (i:Gr w0) {v:Value} (h:Calls P f args i.W fun e w'=>e=.returned v∧i.W=w'):Calls P f args i.W fun e w''=>e=.returned v∧∃ j:Gr w0,w''=j.W :=
 h.mono fun _ _ ⟨he,hg⟩=>⟨he,i,hg.symm⟩
theorem Gr.cell {w0:World} {p:Addr} {v:Value} (h:w0.cell? p=some v):∀ i:Gr w0,i.W.cell? p=some v:=fun i=>(i.g.cell (World.block_lt_of_cell? w0 _ h)).trans h
theorem c_82 {p:Prop} (h:p:=by
 go_wp2_with fail;refine K1.out.mono ?_;rintro e w1 ⟨rfl,rfl⟩;dsimp only;go_wp2_with fail;refine K2.out.mono ?_;rintro e w1 ⟨rfl,rfl⟩;dsimp only;go_wp2;go_ret;exact⟨rfl,rfl⟩
):p:=h
theorem aUj (B:Nat) (id:Int) (x:BrC) (W:World) (h0:W.cell? ⟨B,0,none⟩=some (.int .i64 id)) :
  Calls Tryz.prog 78 (#[x.agg] ++ #[.pointer (some ⟨B,0,none⟩)]) W fun e w'=>e=.returned (.bool (x.id == id))∧aA W w':=by
 have hB:=World.block_lt_of_cell? W _ h0;unfold BrC.agg;go_enter Tryz.func78,Tryz.ntmps78;go_wp2;go_ret;exact⟨rfl,by first|exact(uX W).alloc _|exact((uX W).alloc _).drew⟩
theorem uB:∀ args w,(callFunc 78 args).run Tryz.prog w=.ok (.enter 78 args) w:=enters_of Tryz.func78 (by kernel_rfl) rfl
theorem aJo (l:List Br) (id:Int) (rv bv:Value) (w:World) (hv:bQ w bv l):Calls Tryz.prog 63 #[.agg #[rv,bv],.int .i64 id] w fun e w'=>e=.returned (.int .i64 (aSb l id))∧aA w w':=by
 obtain⟨A,c,rfl,-,-,-⟩:=hv.open_;obtain⟨cs,h1,h2,h3⟩:=hv
 have he:aSb l id=lL (fun c:BrC=>c.id == id) cs:=(xQ cs l h2 (fun i h h'=>by
  have:=congrArg BrC.id (h3 i h h').1;simp only [Br.c] at this
  rw[this])).symm
 have hix:=qH cs (fun c=>c.id == id) _ _ uB (.slice A l.length c) ((w.alloc (.cells #[rv,.slice A l.length c] 43)).alloc (.cells #[.int .i64 id] 3)) (h1.mono (((uX w).alloc _).alloc _)) (fun W x hW _=>aUj (w.heap.size+1) id x W (by
  have:=yQ (cs:=[.int .i64 id]) hW 0 _ rfl
  simpa using this))
 rw[he];generalize lL (fun c:BrC=>c.id == id) cs=r at hix;have HX:=uZ hix;clear hix h1 h3 he;go_enter Tryz.func63,Tryz.ntmps63;go_wp2_with (first|(go_at_call 77;refine HX.out.mono ?_;rintro e w1 ⟨rfl,hg⟩))
 go_ret;exact⟨rfl,(((uX w).alloc _).alloc _).trans hg⟩
theorem aYb (p c:Int) (w:World):Calls Tryz.prog 183 #[.int .i64 p,.int .i64 c] w fun e w'=>e=.returned (.bool (fX p c))∧w=w':=by
 unfold fX;have k1:=sI p 1 4 w;have k2:=sI c 1 4 w;generalize aN p 1 4=q1 at k1 ⊢;generalize aN c 1 4=q2 at k2 ⊢;have K1:=uZ k1;have K2:=uZ k2;clear k1 k2
 cases q1 with
 | false =>
  go_enter Tryz.func183,Tryz.ntmps183;go_wp2_with fail;refine K1.out.mono ?_;rintro e w1 ⟨rfl,rfl⟩;dsimp only;exact c_130
 | true =>
 cases q2 with
 | false =>
  go_enter Tryz.func183,Tryz.ntmps183;exact c_82
 | true =>
  cases a1:decide (p<c)<;>cases a2:(p == 2)<;>cases a3:(c == 2)
  all_goals
   go_enter Tryz.func183,Tryz.ntmps183;exact c_82
theorem e_17 {p:Prop} (h:p:=by
 have Hn:RowKit.Hid (¬ PA):=fun h=>by have:=(HD.out.1 h).2.2.2.1;cases this
 go_wp2;go_ret;exact bM.no 4 b_52 Hn.out HW2.out
):p:=h
theorem h_185 {p:Prop} (h:p:=by
 exact(show ¬ ym.toList=[] from fun h=>by rw[h] at he;cases he)
):p:=h
theorem h_115 {p:Prop} (h:p:=by
 exact(show RowKit.Hid (PM↔q4=true∧q5=false) from⟨fun h=>HMK.out.1 h he,fun h=>HMK.out.2 (fun _=>h)⟩)
):p:=h
theorem e_16 {p:Prop} (h:p:=by
 have Hn:RowKit.Hid (¬ PA):=fun h=>by have:=(HMI.out.1 (HD.out.1 h).2.2.2.2).1;cases this
 go_wp2;go_ret;exact bM.no 1 b_52 Hn.out HW3.out
):p:=h
theorem c_22 {p:Prop} (h:p:=by
 go_wp2_with fail;refine(KN.out _ (aA.drewN HGB.out _)).mono ?_;rintro e w2 ⟨rfl,g2⟩;have HG2:=uZ ((aA.drewN (uX _) _).trans g2);have HW2:=uZ ((aA.drewN HGB.out _).trans g2);have m4:=cZ HG2.out 4 _ rfl;have t1:=bV HG2.out 1 _ rfl;clear g2;dsimp only
 cases q3 with
 | false =>
  exact e_17
 | true =>
 cases he:ym.toList.isEmpty with
 | true =>
  have Hy:RowKit.Hid PA:=HD.out.2 ⟨by first|rfl|trivial,by first|rfl|trivial,HPREVOK.out,by first|rfl|trivial,HMK.out.2 (fun h=>by rw[he] at h;cases h)⟩;have hee:ym.toList=[]:=List.isEmpty_iff.1 he;go_wp2;go_ret;exact bM.yes Hy.out HW2.out
 | false =>
  have hem:(!ym.toList.isEmpty)=true:=by simp[he]
  have hne:=h_185;have HMI:=h_115;go_wp2_with fail;refine(KM.out _).mono ?_;rintro e w3 ⟨rfl,g3⟩;have HG3:=uZ (HG2.out.trans g3);have HW3:=uZ (HW2.out.trans g3);have n4:=cZ HG3.out 4 _ rfl;have u1:=bV HG3.out 1 _ rfl;clear g3 m4 t1;dsimp only
  cases q4 with
  | false =>
   exact e_16
  | true =>
  go_wp2_with fail;refine(KU.out _ _ HW3.out n4).mono ?_;rintro e w4 ⟨rfl,g4⟩;have HW4:=uZ (HW3.out.trans g4);clear g4;dsimp only
  cases q5 with
  | true =>
   have Hn:RowKit.Hid (¬ PA):=fun h=>by have:=(HMI.out.1 (HD.out.1 h).2.2.2.2).2;cases this
   go_wp2;go_ret;exact bM.no 19 b_52 Hn.out HW4.out
  | false =>
   have Hy:RowKit.Hid PA:=HD.out.2 ⟨by first|rfl|trivial,by first|rfl|trivial,HPREVOK.out,by first|rfl|trivial,HMI.out.2 ⟨by first|rfl|trivial,by first|rfl|trivial⟩⟩;go_wp2;go_ret;exact bM.yes Hy.out HW4.out
):p:=h
theorem h_21 {p:Prop} (h:p:=by
 exact(show RowKit.Hid (0<i→∀ W,aA w W→W.cell? ⟨b,off+(i-1)*6,none⟩=some (.int .i64 (l[i-1]'b_53).id)) from fun h W hW=>by
  obtain⟨_,_,hq⟩:=hcell (i-1) b_53
  exact(hq W hW).1)
):p:=h
theorem h_22 {p:Prop} (h:p:=by
 exact(show aA w ((w.alloc (.cells [rv,.slice (some ⟨b,off,none⟩) l.length c].toArray 43)).alloc (.cells [.int .i64 yi,.int .i64 yp,.int .i64 yl,.string yt,.string ym].toArray 64)) from((uX w).alloc _).alloc _)
):p:=h
theorem h_27 {p:Prop} (h:p:=by
 exact(show RowKit.Hid (cB l i hi↔aN l[i].id 1 1073741824=true∧aN l[i].level 1 4=true∧(0<i→(l[i-1]'b_53).id<l[i].id)∧fB l[i].title.data.toList=true∧sW l i l[i].mark) from Iff.rfl)
):p:=h
theorem h_44 {p:Prop} (h:p:=by
 exact(show RowKit.Hid (sW l i ym↔(ym.toList.isEmpty=false→jP ym.data.toList=true∧(l.take i).any (fun b=>b.mark.toList == ym.toList)=false)) from Iff.rfl)
):p:=h
theorem h_141 {p:Prop} (h:p:=by
 exact(show IntKind.i64.wrap ((i:Int)-1)=(i:Int)-1 from IntWalk.i64_in _ b_53)
):p:=h
theorem h_207 {p:Prop} (h:p:=by
 exact(show(i:Int)<(l.length:Int) from by omega)
):p:=h
theorem h_215 {p:Prop} (h:p:=by
 exact(show(0:Int)≤(i:Int) from by omega)
):p:=h
theorem Rd.take {α:Type} {w:World} {k:Nat} {f:α→List Value} (hk:∀ x,(f x).length=k) (h0:0<k) {A:Option Addr} {n c:Nat} {l:List α} (hv:Rd w k (.slice A n c) (l.flatMap f)) (i:Nat) (hi:i≤l.length):Rd w k (.slice A i c) ((l.take i).flatMap f):=by
 obtain⟨A',n',c',hs,hl,hn,hc,hr⟩:=hv;cases hs;rw[aL f k hk] at hl;have hln:l.length=n:=Nat.eq_of_mul_eq_mul_right h0 hl;refine⟨A,i,c,rfl,?_,by omega,hc,fun h1=>?_⟩
 ·rw[aL f k hk,List.length_take,Nat.min_eq_left hi]
 ·obtain⟨b,off,hA,hb,hcell⟩:=hr b_53
  refine⟨b,off,hA,hb,fun j u hu=>hcell j u ?_⟩
  conv=>lhs;rw[← List.take_append_drop i l,List.flatMap_append]
  rw[List.getElem?_append_left]
  ·exact hu
  ·exact(List.getElem?_eq_some_iff.1 hu).1
theorem yB (l:List BrC) (p:BrC→Bool) (g:Nat) (lb:Array Value) (eg:∀ args w,(callFunc g args).run Tryz.prog w=.ok (.enter g args) w) (v:Value) (w:World) (hv:SlB w v l)
  (hp:∀ W x,aA w W→x∈l→Calls Tryz.prog g (#[x.agg]++lb) W fun e w'=>e=.returned (.bool (p x))∧aA W w') :
  Calls Tryz.prog 233 #[v,.func (.func g) #[] lb] w fun e w'=>e=.returned (.bool (l.any p))∧aA w w':=by
 have hi:=uZ (qH l p g lb eg v w hv hp);have hd:decide (0≤lL p l)=l.any p:=pD p l;generalize lL p l=i at hi hd;have Hd:=uZ hd;clear hv hp hd;go_enter Tryz.func233,Tryz.ntmps233;go_wp2_with (first|(go_at_call 77;refine hi.out.mono ?_;rintro e w1 ⟨rfl,hg⟩))
 go_ret;exact⟨aV Hd.out,hg⟩
theorem aUn (C:Nat) (m:ByteArray) (x:BrC) (W:World) (h0:W.cell? ⟨C,4,none⟩=some (.string m)) :
  Calls Tryz.prog 234 (#[x.agg] ++ #[.pointer (some ⟨C,0,none⟩)]) W fun e w'=>e=.returned (.bool (x.mark.toList == m.toList))∧aA W w':=by
 have hB:=World.block_lt_of_cell? W _ h0;unfold BrC.agg;go_enter Tryz.func234,Tryz.ntmps234;go_wp2;go_ret;exact⟨rfl,by first|exact(uX W).alloc _|exact((uX W).alloc _).drew⟩
theorem uC:∀ args w,(callFunc 234 args).run Tryz.prog w=.ok (.enter 234 args) w:=enters_of Tryz.func234 (by kernel_rfl) rfl
theorem aWp {α β:Type} {p:α→Bool} {q:β→Bool} (l:List α) (m:List β) (h:l.length=m.length) (hr:∀ i (h:i<l.length) (h':i<m.length),p l[i]=q m[i]):l.any p=m.any q:=by
 rw[← pD,← pD,xQ l m h hr]
theorem bCf (l:List Br) (i:Nat) (hi:i≤l.length) (A:Option Addr) (c C:Nat) (m:ByteArray) (w W:World) (hv:bQ w (.slice A l.length c) l) (hW:aA w W) (h0:W.cell? ⟨C,4,none⟩=some (.string m)) :
  Calls Tryz.prog 233 #[.slice A i c,.func (.func 234) #[] #[.pointer (some ⟨C,0,none⟩)]] W fun e w'=>e=.returned (.bool ((l.take i).any fun b=>b.mark.toList == m.toList))∧aA W w':=by
 obtain⟨cs,h1,h2,h3⟩:=hv
 have he:((l.take i).any fun b=>b.mark.toList == m.toList)=((cs.take i).any fun b=>b.mark.toList == m.toList):=(aWp (cs.take i) (l.take i) (by simp[h2]) (fun j h h'=>by
  have hj:j<cs.length:=by simp at h;omega
  have hj':j<l.length:=by simp at h';omega
  have:=congrArg BrC.mark (h3 j hj hj').1;simp only [Br.c] at this;simp only [List.getElem_take]
  rw[this])).symm
 rw[he];exact yB (cs.take i) (fun b=>b.mark.toList == m.toList) _ _ uC (.slice A i c) W (Rd.take (k:=6) (f:=BrC.cells) (fun _=>rfl) b_53 (show Rd W 6 _ (cs.flatMap BrC.cells) from h1.mono hW) i b_53) (fun W' x hW' _=>aUn C m x W' ((hW'.cell (World.block_lt_of_cell? W _ h0)).trans h0))
theorem cZ {w W:World} {cs ds:List Value} {t u:TypeId} (h:aA ((w.alloc (.cells ds.toArray u)).alloc (.cells cs.toArray t)) W) (j:Nat) (v:Value) (hj:cs[j]? = some v):W.cell? ⟨w.heap.size+1,j,none⟩=some v:=by
 have:=yQ h j v hj;simpa using this
theorem bV {w W:World} {cs ds:List Value} {t u:TypeId} (h:aA ((w.alloc (.cells ds.toArray u)).alloc (.cells cs.toArray t)) W) (j:Nat) (v:Value) (hj:ds[j]? = some v):W.cell? ⟨w.heap.size,j,none⟩=some v :=
 yQ (((uX _).alloc _).trans h) j v hj
theorem aSy (l:List Br) (i:Nat) (hi:i<l.length) (rv bv:Value) (w:World) (hE:Env w) (hv:bQ w bv l) :
  Calls Tryz.prog 198 #[.agg #[rv,bv],.int .i64 i] w (bM (cB l i hi) w):=by
 have HV:=uZ hv;have HE:=uZ hE;obtain⟨A,c,rfl,hlc,hc,hr⟩:=hv.open_;unfold maxLen at hc;obtain⟨b,off,rfl,hbk,hcell⟩:=hr b_53;obtain⟨kv,-,hcl⟩:=hcell i hi;obtain⟨c0,c1,c2,c3,c4,-⟩:=hcl w (uX w);have HD:=h_27;have HPREV:=h_21;have hiz:=h_207;have h0z:=h_215;have hic:(i:Int)≤(c:Int):=by omega
 generalize cB l i hi=PA at HD ⊢;generalize hp:(0<i→(l[i-1]'b_53).id<l[i].id)=PP at HD;have hy:∃ y,RowKit.Hid (l[i]=y):=⟨_,rfl⟩
 obtain⟨y,hy⟩:=hy;rw[hy.out] at c0 c1 c2 c3 c4 HD hp;obtain⟨yi,yp,yl,yt,ym,yk⟩:=y;dsimp only at c0 c1 c2 c3 c4 HD hp;have HPP:=uZ hp;have kw1:=sI yi 1 1073741824;have kw2:=sI yl 1 4;have kn:=fun W (hW:aA w W)=>bCg yt W (HE.out.mono hW)
 have km:=aXx ym;have ku:=fun W C (hW:aA w W) h0=>bCf l i b_53 (some ⟨b,off,none⟩) c C ym w W HV.out hW h0
 have HMK:=h_44;generalize sW l i ym=PM at HD HMK;generalize aN yi 1 1073741824=q1 at kw1 HD;generalize aN yl 1 4=q2 at kw2 HD;generalize fB yt.data.toList=q3 at kn HD;generalize jP ym.data.toList=q4 at km HMK;generalize (l.take i).any (fun b=>b.mark.toList == ym.toList)=q5 at ku HMK;have KW1:=uZ kw1;have KW2:=uZ kw2;have KN:=uZ kn;have KM:=uZ km;have KU:=uZ ku;clear hp kw1 kw2 kn km ku hcell hcl hr hv hE;go_enter Tryz.func198,Tryz.ntmps198;go_wp2_with fail;refine(KW1.out _).mono ?_;rintro e w1 ⟨rfl,rfl⟩;have GB:=h_22;have HGB:=uZ GB;clear GB
 cases q1 with
 | false =>
  have Hn:RowKit.Hid (¬ PA):=fun h=>by have:=(HD.out.1 h).1;cases this
  dsimp only;go_wp2;go_ret;exact bM.no 2 b_52 Hn.out HGB.out
 | true =>
 dsimp only;go_wp2_with fail;refine(KW2.out _).mono ?_;rintro e w1 ⟨rfl,rfl⟩
 cases q2 with
 | false =>
  have Hn:RowKit.Hid (¬ PA):=fun h=>by have:=(HD.out.1 h).2.1;cases this
  dsimp only;go_wp2;go_ret;exact bM.no 2 b_52 Hn.out HGB.out
 | true =>
 dsimp only;rcases Nat.eq_zero_or_pos i with hi0|hipos
 ·have HPREVOK:RowKit.Hid PP:=HPP.out▸(fun h=>absurd h b_53)
  subst hi0;go_wp2;go_quiet (fail);exact c_22
 ·have hkz:(0:Int)<(i:Int):=by omega
  have hki:(0:Int)≤(i:Int)-1:=by omega
  have hki2:(i:Int)-1<(l.length:Int):=by omega
  have hki3:(1:Int)≤(i:Int):=by omega
  have hkt:((i:Int)-1).toNat=i-1:=by omega
  have d0:=HPREV.out hipos _ HGB.out;have hpv:PP↔(l[i-1]'b_53).id<yi:=by rw[← HPP.out];exact⟨fun h=>h hipos,fun h _=>h⟩
  generalize (l[i-1]'b_53).id=zi at d0 hpv;have HPV:=uZ hpv;clear hpv;have hwr:=h_141;by_cases r:yi≤zi
  ·have Hn:RowKit.Hid (¬ PA):=fun h=>by have:=HPV.out.1 (HD.out.1 h).2.2.1;omega
   go_wp2;go_quiet (fail);clear hwr;go_wp2;go_ret;exact bM.no 5 b_52 Hn.out (HGB.out.drewN _)
  have r':decide (yi≤zi)=false:=by simpa using r
  have HPREVOK:RowKit.Hid PP:=HPV.out.2 b_53;clear r;go_wp2;go_quiet (fail);clear hwr;exact c_22
theorem c_86 {p:Prop} (h:p:=by
 refine wpQuiet_nil ?_;intro _ hw';obtain⟨wi,rfl⟩:=hw';have HWI:=uZ wi.g;clear f2 t1 d2';go_wp2;go_ret;exact bM.no 18 b_52 Hn.out (HW1.out.trans HWI.out)
):p:=h
theorem h_80 {p:Prop} (h:p:=by
 exact(show RowKit.Hid (PA↔∃ p,aE l yp=some p∧yl≠1∧fX p.level yl=true) from by
  show _↔_
  rw[HD.out,if_neg hp])
):p:=h
theorem h_208 {p:Prop} (h:p:=by
 exact(show(k:Int)<(l.length:Int) from by omega)
):p:=h
theorem h_216 {p:Prop} (h:p:=by
 exact(show(0:Int)≤(k:Int) from by omega)
):p:=h
theorem aJm (l:List Br) (i:Nat) (hi:i<l.length) (rv bv:Value) (w:World) (hv:bQ w bv l) :
  Calls Tryz.prog 199 #[.agg #[rv,bv],.int .i64 i] w (bM (aX l l[i]) w):=by
 have HV:=uZ hv;obtain⟨A,c,rfl,hlc,hc,hr⟩:=hv.open_;unfold maxLen at hc;obtain⟨b,off,rfl,hbk,hcell⟩:=hr b_53;have HCELL:=uZ hcell;obtain⟨kv,-,hcl⟩:=hcell i hi;obtain⟨c0,c1,c2,c3,c4,-⟩:=hcl w (uX w);have HD:RowKit.Hid (aX l l[i]↔if l[i].parent=0 then l[i].level=1 else ∃ p,aE l l[i].parent=some p∧l[i].level≠1∧fX p.level l[i].level=true):=Iff.rfl;have hiz:=h_207;have h0z:=h_215;generalize aX l l[i]=PA at HD ⊢;generalize l[i]=y at c0 c1 c2 c3 c4 HD;obtain⟨yi,yp,yl,yt,ym,yk⟩:=y;dsimp only at c0 c1 c2 c3 c4 HD;have kI:=fun W (hW:aA w W)=>aJo l yp rv (.slice (some ⟨b,off,none⟩) l.length c) W (HV.out.mono hW)
 have GB:=h_22;have HGB:=uZ GB;clear hcell hcl hr hv GB;by_cases hp:yp=0
 ·subst hp
  have HDI:RowKit.Hid (PA↔yl=1):=by
   show _↔_;rw[HD.out,if_pos rfl]
  clear kI;by_cases h1:yl=1
  ·subst h1
   have Hy:RowKit.Hid PA:=HDI.out.2 rfl;go_enter Tryz.func199,Tryz.ntmps199;go_wp2;go_ret;exact bM.yes Hy.out HGB.out
  ·have h1':(yl != 1)=true:=by simpa using h1
   have Hn:RowKit.Hid (¬ PA):=fun h=>h1 (HDI.out.1 h)
   clear h1;go_enter Tryz.func199,Tryz.ntmps199;go_wp2;go_ret;exact bM.no 18 b_52 Hn.out HGB.out
 have hp':(yp == 0)=false:=by simpa using hp
 have HDI:=h_80;clear HD hp
 cases ho:aE l yp with
 | none =>
  rw[aIo ho] at kI;have KI:=uZ kI
  have Hn:RowKit.Hid (¬ PA):=fun h=>by
   obtain⟨p,hpp,_⟩:=HDI.out.1 h;rw[ho] at hpp;cases hpp
  clear kI ho;go_enter Tryz.func199,Tryz.ntmps199;go_wp2_with fail;refine(KI.out _ HGB.out).mono ?_;rintro e w1 ⟨rfl,g1⟩;have HW1:=uZ (HGB.out.trans g1);clear g1;dsimp only;go_wp2;go_ret;exact bM.no 7 b_52 Hn.out HW1.out
 | some p =>
  obtain⟨k,hk,ek,e⟩:=gK ho;rw[ek] at kI
  have HDJ:RowKit.Hid (PA↔yl≠1∧fX p.level yl=true):=by
   show _↔_;rw[HDI.out,ho];simp
  subst e;have KI:=uZ kI;have HF:=uZ (aYb l[k].level yl);have HCK:=uZ (HCELL.out k hk);generalize fX l[k].level yl=ff at HDJ HF;generalize hlv:l[k].level=pl at HF;have HLV:=uZ hlv;have hkz:=h_208;have h0k:=h_216;have hkn:¬ (k:Int)<0:=by omega
  clear kI ho ek hlv HDI;go_enter Tryz.func199,Tryz.ntmps199;go_wp2_with fail;refine(KI.out _ HGB.out).mono ?_;rintro e w1 ⟨rfl,g1⟩;have HW1:=uZ (HGB.out.trans g1);have f2:=Gr.cell (cZ g1 2 _ rfl);have t1:=Gr.cell (bV g1 1 _ rfl);obtain⟨_,_,hq⟩:=HCK.out;obtain⟨-,-,d2,-,-,-⟩:=hq w1 HW1.out;rw[HLV.out] at d2;have d2':=Gr.cell d2;clear g1 hq d2 HCK;dsimp only;by_cases h1:yl=1
  ·subst h1
   have Hn:RowKit.Hid (¬ PA):=fun h=>(HDJ.out.1 h).1 rfl
   go_wp2;refine dD w1 (by kernel_rfl) (by kernel_rfl) (uX _) ?_
   repeat (first|go_big_quiet_step (fail)|quiet_step (fail))
   exact c_86
  ·have h1':(yl == 1)=false:=by simpa using h1
   have Hy1:=uZ h1;clear h1
   cases ff with
   | false =>
    have Hn:RowKit.Hid (¬ PA):=fun h=>by have:=(HDJ.out.1 h).2;cases this
    go_wp2;refine dD w1 (by kernel_rfl) (by kernel_rfl) (uX _) ?_
    repeat (first|go_big_quiet_step ((exact Gr.same _ (HF.out _)))|quiet_step ((exact Gr.same _ (HF.out _))))
    exact c_86
   | true =>
    have Hy:RowKit.Hid PA:=HDJ.out.2 ⟨Hy1.out,by first|rfl|trivial⟩;go_wp2;refine dD w1 (by kernel_rfl) (by kernel_rfl) (uX _) ?_
    repeat (first|go_big_quiet_step ((exact Gr.same _ (HF.out _)))|quiet_step ((exact Gr.same _ (HF.out _))))
    refine wpQuiet_nil ?_;intro _ hw';obtain⟨wi,rfl⟩:=hw';have HWI:=uZ wi.g;clear f2 t1 d2';go_wp2;go_ret;exact bM.yes Hy.out (HW1.out.trans HWI.out)
end Go.Proofs.YtdochkemaiokfaaGreat






namespace Go.Proofs.YtdochkemaiokfaaGreat
open Go.RowKit Go.Shelf
attribute [local go_sem] Oper.semAt_some
theorem aZt:(Tryz.prog.info? 3).map (fun i=>(i.zero,i.size,i.bytes))=some (some (.int .i64 0),1,8):=by kernel_rfl
theorem aBr (F:Fence) (n:Nat) (h7:F.fn 245) (hro:F.round=none) (hn:1≤n) (l Bs n₀ b off cap:Nat) (zs:List Int) (hreach:zs.length≤9223372036854775807) (hb:b<n₀) (J Jx:List Int→World→Prop)
  (hY:∀ pre x W,J pre W→pre.length<zs.length→YieldAt F (n-1) Tryz.prog l #[Value.int .i64 x] W fun e W' =>
   (e=.returned (.bool true)∧J (pre++[x]) W'∧Below n₀ W W')∨(e=.returned (.bool false)∧Jx (pre++[x]) W'))
  (W:World) (hBs:W.cell? ⟨Bs,0,none⟩=some (.slice (some ⟨b,off,none⟩) zs.length cap)) (hc:∀ j (hj:j<zs.length),W.cell? ⟨b,off+j,none⟩=some (Value.int .i64 zs[j])) (h0:J [] W) :
  CallsIn F n Tryz.prog 245 #[.func (.yield l) #[] #[],.pointer (some ⟨Bs,0,none⟩)] W fun e W'=>(∃ v,e=.returned v) ∧
   ((∃ ys,ys=zs∧J ys W')∨(∃ pre,pre <+: zs∧Jx pre W')):=by
 refine callsIn_of_wp Tryz.func245 rfl h7 ?_ hro;simp only [Tryz.ntmps245,List.size_toArray,List.length_cons,List.length_nil,Nat.reduceAdd,Nat.reduceSub,Array.replicate_succ,Array.replicate_zero,List.push_toArray,List.append_toArray,List.nil_append,List.cons_append];have HC:=uZ hc;have HY:=uZ hY;clear hc hY
 gi_wp2
 gi_loopw [7] (fun i wr=>∃ k:Nat,k≤zs.length∧i=.int .i64 k∧J (zs.take k) wr∧Below n₀ W wr)
  (fun i _=>zs.length-(intOf i).toNat)
 case atStart=>exact⟨0,Nat.zero_le _,rfl,h0,Below.refl _ _⟩
 case round =>
  obtain⟨k,hk,rfl,hJs,hnx⟩:=hrel;by_cases hlt:k<zs.length
  ·have hcx':wr.cell? ⟨b,off+k,none⟩=some (Value.int .i64 zs[k]):=(hnx.cell (p:=⟨b,off+k,none⟩) hb).trans (HC.out k hlt)
   obtain⟨fn,tmps,assign,body,hy,hR⟩:=HY.out _ zs[k] wr hJs b_41;have HT:=uZ (List.take_succ_eq_append_getElem hlt);generalize zs[k]=y at hcx' hy hR HT
   gi_wp2
   refine hR.mono ?_;rintro e W3 (⟨rfl,hJ3,hk3⟩|⟨rfl,hJx3⟩)
   ·gi_wp2
    go_roundw
    case rel=>exact⟨k+1,by omega,by simp,by rw[HT.out];exact hJ3,hnx.trans hk3⟩
    case measure=>simp[intOf];omega
   ·gi_wp2
    refine bodyPost_ret (results_none rfl _ _ _) rfl ?_;exact⟨⟨_,rfl⟩,.inr ⟨_,by rw[← HT.out];exact List.take_prefix _ _,hJx3⟩⟩
  ·have e:zs.take k=zs:=List.take_of_length_le b_53
   rw[e] at hJs;clear e
   gi_wp2
   go_end0
   exact⟨⟨_,rfl⟩,.inl ⟨_,rfl,hJs⟩⟩
theorem sC (F:Fence) (n:Nat) (h7:F.fn 245) (hro:F.round=none) (l Bs:Nat) (A:Option Addr) (cap:Nat) (J:List Int→World→Prop) (W:World) (hBs:W.cell? ⟨Bs,0,none⟩=some (.slice A 0 cap)) (h0:J [] W) :
  CallsIn F n Tryz.prog 245 #[.func (.yield l) #[] #[],.pointer (some ⟨Bs,0,none⟩)] W fun e W'=>(∃ v,e=.returned v)∧J [] W':=by
 refine callsIn_of_wp Tryz.func245 rfl h7 ?_ hro;simp only [Tryz.ntmps245,List.size_toArray,List.length_cons,List.length_nil,Nat.reduceAdd,Nat.reduceSub,Array.replicate_succ,Array.replicate_zero,List.push_toArray,List.append_toArray,List.nil_append,List.cons_append]
 gi_wp2
 gi_loopw [7] (fun i wr=>i=.int .i64 0∧J [] wr) (fun _ _=>0)
 case atStart=>exact⟨rfl,h0⟩
 case round =>
  obtain⟨rfl,hJs⟩:=hrel
  gi_wp2
  go_end0
  exact⟨⟨_,rfl⟩,hJs⟩
theorem aBq (A:Option Addr) (n c:Nat) (w:World):Calls Tryz.prog 230 #[.slice A n c] w fun e w'=>e=.returned (.func (.func 245) #[] #[.pointer (some ⟨w.heap.size,0,none⟩)])∧w.alloc (.cells #[.slice A n c] 38)=w':=by
 go_enter Tryz.func230,Tryz.ntmps230;exact c_130
theorem vY (F:Fence) (n:Nat) (h7:F.fn 245) (hro:F.round=none) (hn:1≤n) (Bs n₀:Nat) (sv:Value) (zs:List Int) (w w0:World) (hBs:Bs<w.heap.size) (hn₀:n₀≤w.heap.size) (hw0:w0.heap.size=n₀) (hg:Below n₀ w0 w)
  (hc:w.cell? ⟨Bs,0,none⟩=some sv) (hI:SlI w0 sv zs) :
  SeqStopsK F n Tryz.prog 245 #[.pointer (some ⟨Bs,0,none⟩)] (fun x:Int=>#[Value.int .i64 x]) (Below n₀) (fun ys=>ys=zs) (fun pre=>pre <+: zs) zs.length w:=fun l J Jx W hW _ _ hY h0=>by
 have hc':=(hW.cell (p:=⟨Bs,0,none⟩) hBs).trans hc;obtain⟨A,c,rfl,hlc,hcm,hr⟩:=hI.open_;rcases Nat.eq_zero_or_pos zs.length with hz|hz
 ·obtain rfl:zs=[]:=List.eq_nil_of_length_eq_zero hz
  exact(sC F n h7 hro l Bs A c J W hc' h0).mono fun e W' ⟨he,hj⟩=>⟨he,.inl ⟨_,rfl,hj⟩⟩
 ·obtain⟨b,off,rfl,hb,hcell⟩:=hr hz
  have hgw:aA w0 W:=by
   have:=hg.trans (hW.mono hn₀);unfold aA;rw[hw0];exact this
  exact aBr F n h7 hro hn l Bs n₀ b off c zs (by unfold maxLen at hcm;omega) b_53 J Jx hY W hc' (fun j hj=>hcell W hgw j hj) h0
theorem yE (F:Fence) (n:Nat) (h3:F.fn 254) (h5:F.fn 245) (hro:F.round=none) (hn:3≤n) (Bs n₀:Nat) (sv:Value) (zs:List Int) (hlen:zs.length≤maxLen) (hbytes:zs.length*8≤140737488355328) (w w0:World)
  (hBs:Bs<w.heap.size) (hn₀:n₀≤w.heap.size) (hw0:w0.heap.size=n₀) (hg:Below n₀ w0 w) (hc:w.cell? ⟨Bs,0,none⟩=some sv) (hI:SlI w0 sv zs) :
  CallsIn F n Tryz.prog 254 #[.slice none 0 0,.func (.func 245) #[] #[.pointer (some ⟨Bs,0,none⟩)]] w fun e W'=>∃ v,e=.returned v∧W'.ownsRow w.heap.size 3 1 v zs.length (zs.map (Value.int .i64))∧Below w.heap.size w W':=by
 have h1:1≤n:=by omega
 obtain⟨i0,hi,hz0,hz1,hz2⟩:=info_parts aZt;refine callsIn_of_wp_marks Tryz.func254 rfl h3 ?_ hro;simp only [Tryz.ntmps254,List.size_toArray,List.length_cons,List.length_nil,Nat.reduceAdd,Nat.reduceSub,Array.replicate_succ,Array.replicate_zero,List.push_toArray,List.append_toArray,List.nil_append,List.cons_append];unfold maxLen at hlen
 gi_wp2
 have bO:=Boxed.new w 38 (.slice none 0 0);have hB0:Below w.heap.size w (w.alloc (.cells #[.slice none 0 0] 38)):=(Below.refl _ w).alloc (Nat.le_refl _) _
 refine wpIn_rangeFunc_ownG hro h1 (gf:=245) (lb:=#[.pointer (some ⟨Bs,0,none⟩)]) rfl h5 (enters_of Tryz.func245 (by kernel_rfl) rfl)
  (vY F (n-1) h5 hro b_53 Bs n₀ sv zs _ w0 b_50 b_50 hw0 (hg.trans (hB0.mono hn₀)) ((World.cell?_alloc_lt _ _ _ hBs).trans hc) hI) belowK_t (belowK_b b_50) (Below.refl _ _) (fun _=>rfl)
  (fun pre W=>(∃ v,Boxed W w.heap.size 38 v∧W.ownsRow w.heap.size 3 1 v pre.length (pre.map (Value.int .i64))∧(v=.slice none 0 0↔pre=[]))∧Below w.heap.size w W)
  (fun _ _ _=>False)
  (OwnFrom.and (Own.from (holdsRow_own w.heap.size w.heap.size 38 3 1 (fun pre=>pre.length) (fun pre=>pre.map (Value.int .i64)) (fun pre v=>v=.slice none 0 0↔pre=[])) _) (ownFrom_below (Nat.le_refl _) b_54))
  (fun _ _ _ _ _ hs _ _=>hs)
  ⟨⟨_,bO,World.ownsRow_nil _ _ _ _,by simp⟩,hB0⟩
  (fun x=>{ tmps:=#[.slice none 0 0,.func (.func 245) #[] #[.pointer (some ⟨Bs,0,none⟩)],.pointer (some ⟨w.heap.size,0,none⟩),undef,.slice none 0 0,Value.int .i64 x,.func (.func 245) #[] #[.pointer (some ⟨Bs,0,none⟩)],Value.int .i64 x,undef,undef,undef,undef,undef],defers:=[] }) ?assign ?body ?done ?stop
 case assign =>
  intro l x W K hK
  gi_wp2
  exact hK
 case body =>
  rintro l pre x W ⟨⟨v,hv,hrow,hnil⟩,hB⟩ hlt;have hc:=hv.cell
  gi_wp2_with (gi_at_builtin;refine wpListIn_append_own _ rfl _ _ 38 rfl w.heap.size 3 i0 (.int .i64 0) 1 8 Tryz.underlying38 hi hz0 hz1 hz2 rfl b_52 _ _ _ rfl (hrow.alloc _) ⟨W.heap.size,0,none⟩ 1 1 [Value.int .i64 x] rfl rfl (cell_one_new _ _ _) b_45 b_47 b_53 (by have:=hB.size;simp;omega) ?_;intro v' w1 hown' hgrow _;obtain⟨g',cap',rfl⟩:=ownsRow_succ hown';obtain⟨hv1,hv2,hr2,hk2,hb2⟩:=hv.appended b_52 hrow hB.size (Nat.le_refl _) hown' hgrow;have hc1:=hv1.cell;have hf1:=hv1.frozen)
  exact⟨hk2.from _,hb2.mono hn₀,⟨_,hv2,by simpa using hr2,by simp⟩,hB.trans hb2⟩
 case done =>
  rintro D ys W hD rfl ⟨⟨v,hv,hrow,hnil⟩,hB⟩ hK;have hc:=hv.cell
  gi_wp2
  refine⟨by simp,.inl ⟨_,_,rfl,run_takeDeferred hK,?_⟩⟩;exact⟨_,results_tmp rfl _ _ _,v,rfl,ownsRow_putObj hrow _ hK rfl,hB.trans (belowK_b (w:=w) (Nat.le_refl _) W D _ _ (by simp at hD;omega) hK rfl rfl)⟩
 case stop =>
  rintro D c pre W _ _ h _;exact h.elim
theorem aAs (sv:Value) (zs:List Int) (hbytes:zs.length*8≤140737488355328) (Bs:Nat) (w w0:World) (hBs:Bs<w.heap.size) (hg:aA w0 w) (hc:w.cell? ⟨Bs,0,none⟩=some sv) (hI:SlI w0 sv zs) :
  Calls Tryz.prog 243 #[.func (.func 245) #[] #[.pointer (some ⟨Bs,0,none⟩)]] w fun e w'=>∃ v,e=.returned v∧w'.ownsRow w.heap.size 3 1 v zs.length (zs.map (Value.int .i64))∧aA w w':=by
 have hl:zs.length≤maxLen:=by unfold maxLen;omega
 have ha:=callsIn_wide.1 (yE Fence.wide 3 trivial trivial rfl b_53 Bs w0.heap.size sv zs hl hbytes w w0 hBs hg.size rfl hg hc hI);have HA:=uZ ha;clear ha;go_enter Tryz.func243,Tryz.ntmps243;go_wp2_with (first|(go_at_call 254;refine HA.out.mono ?_;rintro e w1 ⟨v,rfl,ho,hb⟩))
 go_ret;exact⟨v,rfl,ho,hb⟩
end Go.Proofs.YtdochkemaiokfaaGreat
namespace Go.Proofs.YtdochkemaiokfaaGreat
open Go.RowKit Go.Sort
theorem aAg {w0 w1:World} {blk off:Nat} (hb:w0.heap.size≤blk) (hg:aA w0 w1) (d:Array Int) (n:Nat) (os:Array Obj):aA w0 (grow (putRow (Value.int .i64) (Sort.ahead w1 n) blk off d) os):=by
 refine⟨hg.os,hg.tape,hg.output,?_,fun k hk=>?_⟩
 ·have:=hg.size
  simp;omega
 ·have h1:=hg.size
  rw[heap_grow_old _ _ b_50]
  have:(putRow (Value.int .i64) (Sort.ahead w1 n) blk off d).heap[k]? = w1.heap[k]?:=by
   simp only [putRow,mapBlock,heap_ahead,Array.getElem?_modify];rw[if_neg b_53]
  rw[this];exact hg.block k hk
theorem xT (l:List Int):l.flatMap eE=l.map (Value.int .i64):=by
 induction l with
 | nil=>rfl
 | cons x r ih=>simp[List.flatMap_cons,eE,ih]
theorem xR {w:World} {base:Nat} {e:TypeId} {g cap:Nat} {l:List Int} (h:w.ownsRow base e 1 (.slice (some ⟨g,0,none⟩) l.length cap) l.length (l.flatMap eE)):Holds (Value.int .i64) w g 0 l.toArray:=by
 intro j hj;have hj':j<l.length:=by simpa using hj
 refine⟨?_,by rw[Nat.zero_add];exact h.frozenAt j⟩;rw[Nat.zero_add,h.cellAt j b_53,xT];simp[hj']
theorem zA {w:World} {g cap:Nat} {d:List Int} (h:Holds (Value.int .i64) w g 0 d.toArray) (hg:g<w.heap.size) (h1:d.length≤cap) (h2:cap≤maxLen):SlI w (.slice (some ⟨g,0,none⟩) d.length cap) d:=by
 refine⟨some ⟨g,0,none⟩,d.length,cap,rfl,aL eE 1 (fun _=>rfl) d,h1,h2,fun _=>⟨g,0,rfl,hg,fun j u hu=>?_⟩⟩;rw[xT,List.getElem?_map] at hu
 have hj:j<d.length:=by
  rcases Nat.lt_or_ge j d.length with hlt|hge
  ·exact hlt
  ·rw[List.getElem?_eq_none hge] at hu;cases hu
 rw[List.getElem?_eq_getElem hj] at hu;simp only [Option.map_some,Option.some.injEq] at hu;have:=(h j (by simpa using hj)).1;rw[this,← hu];simp[hj]
theorem aPk (l:List Int) (w0:World) (e:TypeId) (v:Value) (w:World) (hown:w.ownsRow w0.heap.size e 1 v l.length (l.flatMap eE)) (hg:aA w0 w) (hl:l.length≤1000000) :
  Calls Tryz.prog 244 #[v] w fun en w'=>en=.returned (.tuple #[])∧SlI w' v (sortI l)∧aA w0 w':=by
 rcases Nat.eq_zero_or_pos l.length with h0|h0
 ·obtain rfl:l=[]:=List.eq_nil_of_length_eq_zero h0
  have hv:∃ A c,v=.slice A 0 c:=by
   rcases hown.2 with ⟨rfl,_⟩|⟨g,cap,cur,rfl,_⟩
   ·exact⟨_,_,rfl⟩
   ·exact⟨_,_,rfl⟩
  obtain⟨A,c,rfl⟩:=hv;refine(Tryz.slices_Sort_int_none A c w).mono ?_;rintro en w' ⟨rfl,rfl⟩;refine⟨rfl,?_,hg⟩;rw[show sortI []=[] by simp[sortI]];exact Rd.of_own hown
 ·obtain⟨g,cap,rfl,hbg,hlt,hcap⟩:=fH hown h0
  have hH:=xR hown;refine(Tryz.slices_Sort_int g 0 cap l w hH hlt b_53).mono ?_;rintro en w' ⟨rfl,n,os,rfl⟩;have hl2:(sortI l).length=l.length:=(List.mergeSort_perm l _).length_eq
  have hh2:Holds (Value.int .i64) (grow (putRow (Value.int .i64) (Sort.ahead w n) g 0 (sortI l).toArray) os) g 0 (sortI l).toArray :=
   holds_grow _ _ _ _ _ _ (by simpa using hlt) (holds_putRow _ _ _ _ _ _ (holds_ahead _ _ _ _ _ _ hH) (by simp[hl2]))
  refine⟨rfl,?_,aAg hbg hg _ _ _⟩;have:=zA hh2 b_50 (by rw[hl2];exact hcap) (sV hown);rw[hl2] at this;exact this
theorem aBv (sv:Value) (zs:List Int) (hz:zs.length≤1000000) (Bs:Nat) (w w0:World) (hBs:Bs<w.heap.size) (hg:aA w0 w) (hc:w.cell? ⟨Bs,0,none⟩=some sv) (hI:SlI w0 sv zs) :
  Calls Tryz.prog 229 #[.func (.func 245) #[] #[.pointer (some ⟨Bs,0,none⟩)]] w fun e w'=>∃ v,e=.returned v∧SlI w' v (sortI zs)∧aA w w':=by
 have hco:=uZ (aAs sv zs b_53 Bs w w0 hBs hg hc hI);clear hc hI hg hBs;go_enter Tryz.func229,Tryz.ntmps229;go_wp2_with fail;refine hco.out.mono ?_;rintro e w1 ⟨v,rfl,ho,hb⟩;rw[← xT] at ho;have HS:=uZ (aPk zs w _ v w1 ho hb hz);clear ho;dsimp only;go_wp2_with fail;refine HS.out.mono ?_;rintro e w2 ⟨rfl,hs2,g2⟩;have HS2:=uZ hs2;clear hs2;dsimp only;go_wp2;go_ret;exact⟨_,rfl,HS2.out,g2⟩
end Go.Proofs.YtdochkemaiokfaaGreat