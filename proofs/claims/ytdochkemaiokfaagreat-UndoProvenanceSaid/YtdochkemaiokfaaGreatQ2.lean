/- Lemmas on what the functions of the program and of the library compute: A2, PlainT, Gr, T1, T2, T3, SeqI, SortI, SlR. The conditions stand at each. -/
import Derived.Test.YtdochkemaiokfaaGreatQ1
import Derived.BigQuiet
import Derived.RangeFuncBox
import Derived.RangeFuncLeaves
import Derived.OwnWalkIn
import Derived.TacticsInMore
import Derived.LoopNIn
import Derived.LoopIn
import Derived.Maps.AppendAt
import Derived.Test.YtdochkemaiokfaaGreatProg
import Derived.Lib.LazyBuf
/- authority: names, alone: whether an authority is right by itself, walked. The condition: the library's own variables hold what they must. -/
namespace Go.Proofs.YtdochkemaiokfaaGreat
open Go.RowKit
def RetIff (P:Prop) (w:World) (e:Ending) (w':World):Prop:=∃ n:Int,e=.returned (.int .i64 n)∧(n=0↔P)∧Grew w w'
theorem RetIff.no {P:Prop} {w w':World} (n:Int) (hn:n≠0) (h:¬ P) (hg:Grew w w'):RetIff P w (.returned (.int .i64 n)) w':=⟨n,rfl,⟨fun e=>absurd e hn,fun e=>absurd e h⟩,hg⟩
theorem RetIff.yes {P:Prop} {w w':World} (h:P) (hg:Grew w w'):RetIff P w (.returned (.int .i64 0)) w':=⟨0,rfl,⟨fun _=>h,fun _=>rfl⟩,hg⟩
theorem new_cell {w W:World} {cs:List Value} {t:TypeId} (h:Grew (w.alloc (.cells cs.toArray t)) W) (j:Nat) (v:Value) (hj:cs[j]? = some v):W.cell? ⟨w.heap.size,j,none⟩=some v:=by
 have hlast:(w.alloc (.cells cs.toArray t)).heap[w.heap.size]? = some (.cells cs.toArray t):=heap_alloc_last w _
 rw[h.cell (p:=⟨w.heap.size,j,none⟩) (by simp),cell_of_row _ _ _ _ _ _ hlast]
 simpa using hj
end Go.Proofs.YtdochkemaiokfaaGreat
/- What is right of a tree, plainly. No condition. -/
namespace Go.Proofs.YtdochkemaiokfaaGreat
open Go.RowKit
def brFind (l:List Br) (id:Int):Option Br:=l.find? fun b=>b.id == id
def brIdx (l:List Br) (id:Int):Int:=idxP (fun b=>b.id == id) l
def fitsF (p c:Int):Bool:=within p 1 4 && (within c 1 4 && (decide (p<c) || (p == 2 && c == 2)))
def markOk (l:List Br) (i:Nat) (m:ByteArray):Prop:=m.toList.isEmpty=false→markF m.data.toList=true∧(l.take i).any (fun b=>b.mark.toList == m.toList)=false
def BrAlone (l:List Br) (i:Nat) (h:i<l.length):Prop :=
 within l[i].id 1 1073741824=true∧within l[i].level 1 4=true∧(0<i→(l[i-1]'(by omega)).id<l[i].id)∧nameF l[i].title.data.toList=true∧markOk l i l[i].mark
def BrPlaced (l:List Br) (b:Br):Prop:=if b.parent=0 then b.level=1 else ∃ p,brFind l b.parent=some p∧b.level≠1∧fitsF p.level b.level=true
def kidsOf (l:List Br) (id:Int):List Int:=(l.filter fun b=>b.parent == id).map Br.id
def sortI (l:List Int):List Int:=l.mergeSort fun x y=>decide (x≤y)
def deep (l:List Br):Nat→Br→Option Nat
 | 0,b=>if b.parent=0 then some 1 else none
 | n+1,b=>if b.parent=0 then some 1 else match brFind l b.parent with
  | none=>none
  | some p=>(deep l n p).map (· + 1)
def BrDeep (l:List Br) (b:Br):Prop:=∃ d,deep l l.length b=some d∧d≤12
def RightT (t:Tr):Prop:=t.brs.length≤256∧(∀ i (h:i<t.brs.length),BrAlone t.brs i h)∧(∀ i (h:i<t.brs.length),BrPlaced t.brs t.brs[i])∧(∀ i (h:i<t.brs.length),sortI t.brs[i].kids=kidsOf t.brs t.brs[i].id) ∧
 sortI t.roots=kidsOf t.brs 0∧∀ i (h:i<t.brs.length),BrDeep t.brs t.brs[i]
theorem brIdx_none {l:List Br} {id:Int} (h:brFind l id=none):brIdx l id=-1:=by
 refine idxP_miss _ l (fun i hi=>?_)
 have:=List.find?_eq_none.1 h l[i] (List.getElem_mem hi)
 simpa using this
theorem brIdx_some {l:List Br} {id:Int} {b:Br} (h:brFind l id=some b):∃ k,∃ hk:k<l.length,brIdx l id=(k:Int)∧l[k]=b:=by
 obtain⟨hb,k,hk,e,hbef⟩:=List.find?_eq_some_iff_getElem.1 h
 refine⟨k,hk,idxP_hit _ l k hk (by rw[e];exact hb) (fun i hi hik=>by simpa using hbef i hik),e⟩
end Go.Proofs.YtdochkemaiokfaaGreat
/- Regions that draw their order and whose calls make memory: one walk in the order of the text, in every world that grew out of one. No condition. -/
namespace Go.Proofs.YtdochkemaiokfaaGreat
open Go.RowKit
structure Gr (w:World) where
 W:World
 g:Grew w W
instance (w:World):Nonempty (Gr w):=⟨⟨w,Grew.refl w⟩⟩
instance (w:World):Inhabited (Gr w):=⟨⟨w,Grew.refl w⟩⟩
theorem region_gr {P:Program} {id:Nat} {Q:Exit→Act→World→Prop} {a:Act} {w:World} {l:List Oper} (w0:World) (hm:P.follows .mixedOrders=true) (hB:Region.lexB .any l.toArray=true) (hg:Grew w0 w)
  (h:wpQuiet P l.toArray (fun W'=>∃ i:Gr w0,W'=i.W) (fun a'=>∀ W',(∃ i:Gr w0,W'=i.W)→Q .normal a' W') l a):(Code.region id l.toArray true).wp P Q a w :=
 wp_region_quiet (C:=fun W'=>∃ i:Gr w0,W'=i.W) hm hB ⟨⟨w.drew,hg.drew⟩,rfl⟩ (by simpa using h)
theorem Gr.calls {P:Program} {f:FuncId} {args:Array Value} {w0:World} (i:Gr w0) {v:Value} (h:Calls P f args i.W fun e w'=>e=.returned v∧Grew i.W w'):Calls P f args i.W fun e w''=>e=.returned v∧∃ j:Gr w0,w''=j.W :=
 h.mono fun _ w' ⟨he,hg⟩=>⟨he,⟨w',i.g.trans hg⟩,rfl⟩
theorem Gr.same {P:Program} {f:FuncId} {args:Array Value} {w0:World} (i:Gr w0) {v:Value} (h:Calls P f args i.W fun e w'=>e=.returned v∧i.W=w'):Calls P f args i.W fun e w''=>e=.returned v∧∃ j:Gr w0,w''=j.W :=
 h.mono fun _ _ ⟨he,hg⟩=>⟨he,i,hg.symm⟩
theorem Gr.cell {w0:World} {p:Addr} {v:Value} (h:w0.cell? p=some v):∀ i:Gr w0,i.W.cell? p=some v:=fun i=>(i.g.cell (World.block_lt_of_cell? w0 _ h)).trans h
end Go.Proofs.YtdochkemaiokfaaGreat
/- tree: index, Fits, alone, walked. The condition: the library's own variables hold what they must. -/
namespace Go.Proofs.YtdochkemaiokfaaGreat
open Go.RowKit
theorem tIndex1 (B:Nat) (id:Int) (x:BrC) (W:World) (h0:W.cell? ⟨B,0,none⟩=some (.int .i64 id)) :
  Calls Tryz.prog 78 (#[x.agg] ++ #[.pointer (some ⟨B,0,none⟩)]) W fun e w'=>e=.returned (.bool (x.id == id))∧Grew W w':=by
 have hB:=World.block_lt_of_cell? W _ h0
 unfold BrC.agg
 go_enter Tryz.func78,Tryz.ntmps78
 go_wp2
 go_ret
 exact⟨rfl,by first|exact(Grew.refl W).alloc _|exact((Grew.refl W).alloc _).drew⟩
theorem enters_tIndex1:∀ args w,(callFunc 78 args).run Tryz.prog w=.ok (.enter 78 args) w:=enters_of Tryz.func78 (by kernel_rfl) rfl
theorem tIndex (l:List Br) (id:Int) (rv bv:Value) (w:World) (hv:SlBr w bv l):Calls Tryz.prog 63 #[.agg #[rv,bv],.int .i64 id] w fun e w'=>e=.returned (.int .i64 (brIdx l id))∧Grew w w':=by
 obtain⟨A,c,rfl,-,-,-⟩:=hv.open_
 obtain⟨cs,h1,h2,h3⟩:=hv
 have he:brIdx l id=idxP (fun c:BrC=>c.id == id) cs:=(idxP_rel cs l h2 (fun i h h'=>by
  have:=congrArg BrC.id (h3 i h h').1
  simp only [Br.c] at this
  rw[this])).symm
 have hix:=indexFuncB cs (fun c=>c.id == id) _ _ enters_tIndex1 (.slice A l.length c) ((w.alloc (.cells #[rv,.slice A l.length c] 43)).alloc (.cells #[.int .i64 id] 3)) (h1.mono (((Grew.refl w).alloc _).alloc _)) (fun W x hW _=>tIndex1 (w.heap.size+1) id x W (by
  have:=new_cell (cs:=[.int .i64 id]) hW 0 _ rfl
  simpa using this))
 rw[he]
 generalize idxP (fun c:BrC=>c.id == id) cs=r at hix
 have HX:=Lib.hid hix
 clear hix h1 h3 he
 go_enter Tryz.func63,Tryz.ntmps63
 go_wp2_with (first|(go_at_call 77;refine HX.out.mono ?_;rintro e w1 ⟨rfl,hg⟩))
 go_ret
 exact⟨rfl,(((Grew.refl w).alloc _).alloc _).trans hg⟩
theorem tFits (p c:Int) (w:World):Calls Tryz.prog 183 #[.int .i64 p,.int .i64 c] w fun e w'=>e=.returned (.bool (fitsF p c))∧w=w':=by
 unfold fitsF
 have k1:=tWithin p 1 4 w
 have k2:=tWithin c 1 4 w
 generalize within p 1 4=q1 at k1 ⊢
 generalize within c 1 4=q2 at k2 ⊢
 have K1:=Lib.hid k1
 have K2:=Lib.hid k2
 clear k1 k2
 cases q1 with
 | false =>
  go_enter Tryz.func183,Tryz.ntmps183
  go_wp2_with fail
  refine K1.out.mono ?_
  rintro e w1 ⟨rfl,rfl⟩
  dsimp only
  go_wp2
  go_ret
  exact⟨rfl,rfl⟩
 | true =>
 cases q2 with
 | false =>
  go_enter Tryz.func183,Tryz.ntmps183
  go_wp2_with fail
  refine K1.out.mono ?_
  rintro e w1 ⟨rfl,rfl⟩
  dsimp only
  go_wp2_with fail
  refine K2.out.mono ?_
  rintro e w1 ⟨rfl,rfl⟩
  dsimp only
  go_wp2
  go_ret
  exact⟨rfl,rfl⟩
 | true =>
  cases a1:decide (p<c)<;>cases a2:(p == 2)<;>cases a3:(c == 2)
  all_goals
   go_enter Tryz.func183,Tryz.ntmps183
   go_wp2_with fail
   refine K1.out.mono ?_
   rintro e w1 ⟨rfl,rfl⟩
   dsimp only
   go_wp2_with fail
   refine K2.out.mono ?_
   rintro e w1 ⟨rfl,rfl⟩
   dsimp only
   go_wp2
   go_ret
   exact⟨rfl,rfl⟩
end Go.Proofs.YtdochkemaiokfaaGreat
/- tree.alone, walked. The condition: the library's own variables hold what they must. -/
namespace Go.Proofs.YtdochkemaiokfaaGreat
open Go.RowKit
theorem Rd.take {α:Type} {w:World} {k:Nat} {f:α→List Value} (hk:∀ x,(f x).length=k) (h0:0<k) {A:Option Addr} {n c:Nat} {l:List α} (hv:Rd w k (.slice A n c) (l.flatMap f)) (i:Nat) (hi:i≤l.length):Rd w k (.slice A i c) ((l.take i).flatMap f):=by
 obtain⟨A',n',c',hs,hl,hn,hc,hr⟩:=hv
 cases hs
 rw[flatMap_len f k hk] at hl
 have hln:l.length=n:=Nat.eq_of_mul_eq_mul_right h0 hl
 refine⟨A,i,c,rfl,?_,by omega,hc,fun h1=>?_⟩
 ·rw[flatMap_len f k hk,List.length_take,Nat.min_eq_left hi]
 ·obtain⟨b,off,hA,hb,hcell⟩:=hr (by omega)
  refine⟨b,off,hA,hb,fun j u hu=>hcell j u ?_⟩
  conv=>lhs;rw[← List.take_append_drop i l,List.flatMap_append]
  rw[List.getElem?_append_left]
  ·exact hu
  ·exact(List.getElem?_eq_some_iff.1 hu).1
theorem containsFuncB (l:List BrC) (p:BrC→Bool) (g:Nat) (lb:Array Value) (eg:∀ args w,(callFunc g args).run Tryz.prog w=.ok (.enter g args) w) (v:Value) (w:World) (hv:SlB w v l)
  (hp:∀ W x,Grew w W→x∈l→Calls Tryz.prog g (#[x.agg]++lb) W fun e w'=>e=.returned (.bool (p x))∧Grew W w') :
  Calls Tryz.prog 233 #[v,.func (.func g) #[] lb] w fun e w'=>e=.returned (.bool (l.any p))∧Grew w w':=by
 have hi:=Lib.hid (indexFuncB l p g lb eg v w hv hp)
 have hd:decide (0≤idxP p l)=l.any p:=idxP_any p l
 generalize idxP p l=i at hi hd
 have Hd:=Lib.hid hd
 clear hv hp hd
 go_enter Tryz.func233,Tryz.ntmps233
 go_wp2_with (first|(go_at_call 77;refine hi.out.mono ?_;rintro e w1 ⟨rfl,hg⟩))
 go_ret
 exact⟨ret_bool Hd.out,hg⟩
theorem tAlone1 (C:Nat) (m:ByteArray) (x:BrC) (W:World) (h0:W.cell? ⟨C,4,none⟩=some (.string m)) :
  Calls Tryz.prog 234 (#[x.agg] ++ #[.pointer (some ⟨C,0,none⟩)]) W fun e w'=>e=.returned (.bool (x.mark.toList == m.toList))∧Grew W w':=by
 have hB:=World.block_lt_of_cell? W _ h0
 unfold BrC.agg
 go_enter Tryz.func234,Tryz.ntmps234
 go_wp2
 go_ret
 exact⟨rfl,by first|exact(Grew.refl W).alloc _|exact((Grew.refl W).alloc _).drew⟩
theorem enters_tAlone1:∀ args w,(callFunc 234 args).run Tryz.prog w=.ok (.enter 234 args) w:=enters_of Tryz.func234 (by kernel_rfl) rfl
theorem any_rel {α β:Type} {p:α→Bool} {q:β→Bool} (l:List α) (m:List β) (h:l.length=m.length) (hr:∀ i (h:i<l.length) (h':i<m.length),p l[i]=q m[i]):l.any p=m.any q:=by
 rw[← idxP_any,← idxP_any,idxP_rel l m h hr]
theorem tUsed (l:List Br) (i:Nat) (hi:i≤l.length) (A:Option Addr) (c C:Nat) (m:ByteArray) (w W:World) (hv:SlBr w (.slice A l.length c) l) (hW:Grew w W) (h0:W.cell? ⟨C,4,none⟩=some (.string m)) :
  Calls Tryz.prog 233 #[.slice A i c,.func (.func 234) #[] #[.pointer (some ⟨C,0,none⟩)]] W fun e w'=>e=.returned (.bool ((l.take i).any fun b=>b.mark.toList == m.toList))∧Grew W w':=by
 obtain⟨cs,h1,h2,h3⟩:=hv
 have he:((l.take i).any fun b=>b.mark.toList == m.toList)=((cs.take i).any fun b=>b.mark.toList == m.toList):=(any_rel (cs.take i) (l.take i) (by simp[h2]) (fun j h h'=>by
  have hj:j<cs.length:=by simp at h;omega
  have hj':j<l.length:=by simp at h';omega
  have:=congrArg BrC.mark (h3 j hj hj').1
  simp only [Br.c] at this
  simp only [List.getElem_take]
  rw[this])).symm
 rw[he]
 exact containsFuncB (cs.take i) (fun b=>b.mark.toList == m.toList) _ _ enters_tAlone1 (.slice A i c) W (Rd.take (k:=6) (f:=BrC.cells) (fun _=>rfl) (by omega) (show Rd W 6 _ (cs.flatMap BrC.cells) from h1.mono hW) i (by omega)) (fun W' x hW' _=>tAlone1 C m x W' ((hW'.cell (World.block_lt_of_cell? W _ h0)).trans h0))
theorem newer_cell {w W:World} {cs ds:List Value} {t u:TypeId} (h:Grew ((w.alloc (.cells ds.toArray u)).alloc (.cells cs.toArray t)) W) (j:Nat) (v:Value) (hj:cs[j]? = some v):W.cell? ⟨w.heap.size+1,j,none⟩=some v:=by
 have:=new_cell h j v hj
 simpa using this
theorem tree_cell {w W:World} {cs ds:List Value} {t u:TypeId} (h:Grew ((w.alloc (.cells ds.toArray u)).alloc (.cells cs.toArray t)) W) (j:Nat) (v:Value) (hj:ds[j]? = some v):W.cell? ⟨w.heap.size,j,none⟩=some v :=
 new_cell (((Grew.refl _).alloc _).trans h) j v hj
set_option maxHeartbeats 4000000 in
theorem tAlone (l:List Br) (i:Nat) (hi:i<l.length) (rv bv:Value) (w:World) (hE:Env w) (hv:SlBr w bv l) :
  Calls Tryz.prog 198 #[.agg #[rv,bv],.int .i64 i] w (RetIff (BrAlone l i hi) w):=by
 have HV:=Lib.hid hv
 have HE:=Lib.hid hE
 obtain⟨A,c,rfl,hlc,hc,hr⟩:=hv.open_
 unfold maxLen at hc
 obtain⟨b,off,rfl,hbk,hcell⟩:=hr (by omega)
 obtain⟨kv,-,hcl⟩:=hcell i hi
 obtain⟨c0,c1,c2,c3,c4,-⟩:=hcl w (Grew.refl w)
 have HD:RowKit.Hid (BrAlone l i hi↔within l[i].id 1 1073741824=true∧within l[i].level 1 4=true∧(0<i→(l[i-1]'(by omega)).id<l[i].id)∧nameF l[i].title.data.toList=true∧markOk l i l[i].mark):=Iff.rfl
 have HPREV:RowKit.Hid (0<i→∀ W,Grew w W→W.cell? ⟨b,off+(i-1)*6,none⟩=some (.int .i64 (l[i-1]'(by omega)).id)):=fun h W hW=>by
  obtain⟨_,_,hq⟩:=hcell (i-1) (by omega)
  exact(hq W hW).1
 have hiz:(i:Int)<(l.length:Int):=by omega
 have h0z:(0:Int)≤(i:Int):=by omega
 have hic:(i:Int)≤(c:Int):=by omega
 generalize BrAlone l i hi=PA at HD ⊢
 generalize hp:(0<i→(l[i-1]'(by omega)).id<l[i].id)=PP at HD
 have hy:∃ y,RowKit.Hid (l[i]=y):=⟨_,rfl⟩
 obtain⟨y,hy⟩:=hy
 rw[hy.out] at c0 c1 c2 c3 c4 HD hp
 obtain⟨yi,yp,yl,yt,ym,yk⟩:=y
 dsimp only at c0 c1 c2 c3 c4 HD hp
 have HPP:=Lib.hid hp
 have kw1:=tWithin yi 1 1073741824
 have kw2:=tWithin yl 1 4
 have kn:=fun W (hW:Grew w W)=>tName yt W (HE.out.mono hW)
 have km:=tMarks ym
 have ku:=fun W C (hW:Grew w W) h0=>tUsed l i (by omega) (some ⟨b,off,none⟩) c C ym w W HV.out hW h0
 have HMK:RowKit.Hid (markOk l i ym↔(ym.toList.isEmpty=false→markF ym.data.toList=true∧(l.take i).any (fun b=>b.mark.toList == ym.toList)=false)):=Iff.rfl
 generalize markOk l i ym=PM at HD HMK
 generalize within yi 1 1073741824=q1 at kw1 HD
 generalize within yl 1 4=q2 at kw2 HD
 generalize nameF yt.data.toList=q3 at kn HD
 generalize markF ym.data.toList=q4 at km HMK
 generalize (l.take i).any (fun b=>b.mark.toList == ym.toList)=q5 at ku HMK
 have KW1:=Lib.hid kw1
 have KW2:=Lib.hid kw2
 have KN:=Lib.hid kn
 have KM:=Lib.hid km
 have KU:=Lib.hid ku
 clear hp kw1 kw2 kn km ku hcell hcl hr hv hE
 go_enter Tryz.func198,Tryz.ntmps198
 go_wp2_with fail
 refine(KW1.out _).mono ?_
 rintro e w1 ⟨rfl,rfl⟩
 have GB:Grew w ((w.alloc (.cells [rv,.slice (some ⟨b,off,none⟩) l.length c].toArray 43)).alloc (.cells [.int .i64 yi,.int .i64 yp,.int .i64 yl,.string yt,.string ym].toArray 64)):=((Grew.refl w).alloc _).alloc _
 have HGB:=Lib.hid GB
 clear GB
 cases q1 with
 | false =>
  have Hn:RowKit.Hid (¬ PA):=fun h=>by have:=(HD.out.1 h).1;cases this
  dsimp only
  go_wp2
  go_ret
  exact RetIff.no 2 (by decide) Hn.out HGB.out
 | true =>
 dsimp only
 go_wp2_with fail
 refine(KW2.out _).mono ?_
 rintro e w1 ⟨rfl,rfl⟩
 cases q2 with
 | false =>
  have Hn:RowKit.Hid (¬ PA):=fun h=>by have:=(HD.out.1 h).2.1;cases this
  dsimp only
  go_wp2
  go_ret
  exact RetIff.no 2 (by decide) Hn.out HGB.out
 | true =>
 dsimp only
 rcases Nat.eq_zero_or_pos i with hi0|hipos
 ·have HPREVOK:RowKit.Hid PP:=HPP.out▸(fun h=>absurd h (by omega))
  subst hi0
  go_wp2
  go_quiet (fail)
  go_wp2_with fail
  refine(KN.out _ (Grew.drewN HGB.out _)).mono ?_
  rintro e w2 ⟨rfl,g2⟩
  have HG2:=Lib.hid ((Grew.drewN (Grew.refl _) _).trans g2)
  have HW2:=Lib.hid ((Grew.drewN HGB.out _).trans g2)
  have m4:=newer_cell HG2.out 4 _ rfl
  have t1:=tree_cell HG2.out 1 _ rfl
  clear g2
  dsimp only
  cases q3 with
  | false =>
   have Hn:RowKit.Hid (¬ PA):=fun h=>by have:=(HD.out.1 h).2.2.2.1;cases this
   go_wp2
   go_ret
   exact RetIff.no 4 (by decide) Hn.out HW2.out
  | true =>
  cases he:ym.toList.isEmpty with
  | true =>
   have Hy:RowKit.Hid PA:=HD.out.2 ⟨by first|rfl|trivial,by first|rfl|trivial,HPREVOK.out,by first|rfl|trivial,HMK.out.2 (fun h=>by rw[he] at h;cases h)⟩
   have hee:ym.toList=[]:=List.isEmpty_iff.1 he
   go_wp2
   go_ret
   exact RetIff.yes Hy.out HW2.out
  | false =>
   have hem:(!ym.toList.isEmpty)=true:=by simp[he]
   have hne:¬ ym.toList=[]:=fun h=>by rw[h] at he;cases he
   have HMI:RowKit.Hid (PM↔q4=true∧q5=false):=⟨fun h=>HMK.out.1 h he,fun h=>HMK.out.2 (fun _=>h)⟩
   go_wp2_with fail
   refine(KM.out _).mono ?_
   rintro e w3 ⟨rfl,g3⟩
   have HG3:=Lib.hid (HG2.out.trans g3)
   have HW3:=Lib.hid (HW2.out.trans g3)
   have n4:=newer_cell HG3.out 4 _ rfl
   have u1:=tree_cell HG3.out 1 _ rfl
   clear g3 m4 t1
   dsimp only
   cases q4 with
   | false =>
    have Hn:RowKit.Hid (¬ PA):=fun h=>by have:=(HMI.out.1 (HD.out.1 h).2.2.2.2).1;cases this
    go_wp2
    go_ret
    exact RetIff.no 1 (by decide) Hn.out HW3.out
   | true =>
   go_wp2_with fail
   refine(KU.out _ _ HW3.out n4).mono ?_
   rintro e w4 ⟨rfl,g4⟩
   have HW4:=Lib.hid (HW3.out.trans g4)
   clear g4
   dsimp only
   cases q5 with
   | true =>
    have Hn:RowKit.Hid (¬ PA):=fun h=>by have:=(HMI.out.1 (HD.out.1 h).2.2.2.2).2;cases this
    go_wp2
    go_ret
    exact RetIff.no 19 (by decide) Hn.out HW4.out
   | false =>
    have Hy:RowKit.Hid PA:=HD.out.2 ⟨by first|rfl|trivial,by first|rfl|trivial,HPREVOK.out,by first|rfl|trivial,HMI.out.2 ⟨by first|rfl|trivial,by first|rfl|trivial⟩⟩
    go_wp2
    go_ret
    exact RetIff.yes Hy.out HW4.out
 ·have hkz:(0:Int)<(i:Int):=by omega
  have hki:(0:Int)≤(i:Int)-1:=by omega
  have hki2:(i:Int)-1<(l.length:Int):=by omega
  have hki3:(1:Int)≤(i:Int):=by omega
  have hkt:((i:Int)-1).toNat=i-1:=by omega
  have d0:=HPREV.out hipos _ HGB.out
  have hpv:PP↔(l[i-1]'(by omega)).id<yi:=by rw[← HPP.out];exact⟨fun h=>h hipos,fun h _=>h⟩
  generalize (l[i-1]'(by omega)).id=zi at d0 hpv
  have HPV:=Lib.hid hpv
  clear hpv
  have hwr:IntKind.i64.wrap ((i:Int)-1)=(i:Int)-1:=IntWalk.i64_in _ (by omega)
  by_cases r:yi≤zi
  ·have Hn:RowKit.Hid (¬ PA):=fun h=>by have:=HPV.out.1 (HD.out.1 h).2.2.1;omega
   go_wp2
   go_quiet (fail)
   clear hwr
   go_wp2
   go_ret
   exact RetIff.no 5 (by decide) Hn.out (HGB.out.drewN _)
  have r':decide (yi≤zi)=false:=by simpa using r
  have HPREVOK:RowKit.Hid PP:=HPV.out.2 (by omega)
  clear r
  go_wp2
  go_quiet (fail)
  clear hwr
  go_wp2_with fail
  refine(KN.out _ (Grew.drewN HGB.out _)).mono ?_
  rintro e w2 ⟨rfl,g2⟩
  have HG2:=Lib.hid ((Grew.drewN (Grew.refl _) _).trans g2)
  have HW2:=Lib.hid ((Grew.drewN HGB.out _).trans g2)
  have m4:=newer_cell HG2.out 4 _ rfl
  have t1:=tree_cell HG2.out 1 _ rfl
  clear g2
  dsimp only
  cases q3 with
  | false =>
   have Hn:RowKit.Hid (¬ PA):=fun h=>by have:=(HD.out.1 h).2.2.2.1;cases this
   go_wp2
   go_ret
   exact RetIff.no 4 (by decide) Hn.out HW2.out
  | true =>
  cases he:ym.toList.isEmpty with
  | true =>
   have Hy:RowKit.Hid PA:=HD.out.2 ⟨by first|rfl|trivial,by first|rfl|trivial,HPREVOK.out,by first|rfl|trivial,HMK.out.2 (fun h=>by rw[he] at h;cases h)⟩
   have hee:ym.toList=[]:=List.isEmpty_iff.1 he
   go_wp2
   go_ret
   exact RetIff.yes Hy.out HW2.out
  | false =>
   have hem:(!ym.toList.isEmpty)=true:=by simp[he]
   have hne:¬ ym.toList=[]:=fun h=>by rw[h] at he;cases he
   have HMI:RowKit.Hid (PM↔q4=true∧q5=false):=⟨fun h=>HMK.out.1 h he,fun h=>HMK.out.2 (fun _=>h)⟩
   go_wp2_with fail
   refine(KM.out _).mono ?_
   rintro e w3 ⟨rfl,g3⟩
   have HG3:=Lib.hid (HG2.out.trans g3)
   have HW3:=Lib.hid (HW2.out.trans g3)
   have n4:=newer_cell HG3.out 4 _ rfl
   have u1:=tree_cell HG3.out 1 _ rfl
   clear g3 m4 t1
   dsimp only
   cases q4 with
   | false =>
    have Hn:RowKit.Hid (¬ PA):=fun h=>by have:=(HMI.out.1 (HD.out.1 h).2.2.2.2).1;cases this
    go_wp2
    go_ret
    exact RetIff.no 1 (by decide) Hn.out HW3.out
   | true =>
   go_wp2_with fail
   refine(KU.out _ _ HW3.out n4).mono ?_
   rintro e w4 ⟨rfl,g4⟩
   have HW4:=Lib.hid (HW3.out.trans g4)
   clear g4
   dsimp only
   cases q5 with
   | true =>
    have Hn:RowKit.Hid (¬ PA):=fun h=>by have:=(HMI.out.1 (HD.out.1 h).2.2.2.2).2;cases this
    go_wp2
    go_ret
    exact RetIff.no 19 (by decide) Hn.out HW4.out
   | false =>
    have Hy:RowKit.Hid PA:=HD.out.2 ⟨by first|rfl|trivial,by first|rfl|trivial,HPREVOK.out,by first|rfl|trivial,HMI.out.2 ⟨by first|rfl|trivial,by first|rfl|trivial⟩⟩
    go_wp2
    go_ret
    exact RetIff.yes Hy.out HW4.out
end Go.Proofs.YtdochkemaiokfaaGreat
/- tree.placed, walked. No condition. -/
namespace Go.Proofs.YtdochkemaiokfaaGreat
open Go.RowKit
set_option maxHeartbeats 4000000 in
theorem tPlaced (l:List Br) (i:Nat) (hi:i<l.length) (rv bv:Value) (w:World) (hv:SlBr w bv l) :
  Calls Tryz.prog 199 #[.agg #[rv,bv],.int .i64 i] w (RetIff (BrPlaced l l[i]) w):=by
 have HV:=Lib.hid hv
 obtain⟨A,c,rfl,hlc,hc,hr⟩:=hv.open_
 unfold maxLen at hc
 obtain⟨b,off,rfl,hbk,hcell⟩:=hr (by omega)
 have HCELL:=Lib.hid hcell
 obtain⟨kv,-,hcl⟩:=hcell i hi
 obtain⟨c0,c1,c2,c3,c4,-⟩:=hcl w (Grew.refl w)
 have HD:RowKit.Hid (BrPlaced l l[i]↔if l[i].parent=0 then l[i].level=1 else ∃ p,brFind l l[i].parent=some p∧l[i].level≠1∧fitsF p.level l[i].level=true):=Iff.rfl
 have hiz:(i:Int)<(l.length:Int):=by omega
 have h0z:(0:Int)≤(i:Int):=by omega
 generalize BrPlaced l l[i]=PA at HD ⊢
 generalize l[i]=y at c0 c1 c2 c3 c4 HD
 obtain⟨yi,yp,yl,yt,ym,yk⟩:=y
 dsimp only at c0 c1 c2 c3 c4 HD
 have kI:=fun W (hW:Grew w W)=>tIndex l yp rv (.slice (some ⟨b,off,none⟩) l.length c) W (HV.out.mono hW)
 have GB:Grew w ((w.alloc (.cells [rv,.slice (some ⟨b,off,none⟩) l.length c].toArray 43)).alloc (.cells [.int .i64 yi,.int .i64 yp,.int .i64 yl,.string yt,.string ym].toArray 64)):=((Grew.refl w).alloc _).alloc _
 have HGB:=Lib.hid GB
 clear hcell hcl hr hv GB
 by_cases hp:yp=0
 ·subst hp
  have HDI:RowKit.Hid (PA↔yl=1):=by
   show _↔_
   rw[HD.out,if_pos rfl]
  clear kI
  by_cases h1:yl=1
  ·subst h1
   have Hy:RowKit.Hid PA:=HDI.out.2 rfl
   go_enter Tryz.func199,Tryz.ntmps199
   go_wp2
   go_ret
   exact RetIff.yes Hy.out HGB.out
  ·have h1':(yl != 1)=true:=by simpa using h1
   have Hn:RowKit.Hid (¬ PA):=fun h=>h1 (HDI.out.1 h)
   clear h1
   go_enter Tryz.func199,Tryz.ntmps199
   go_wp2
   go_ret
   exact RetIff.no 18 (by decide) Hn.out HGB.out
 have hp':(yp == 0)=false:=by simpa using hp
 have HDI:RowKit.Hid (PA↔∃ p,brFind l yp=some p∧yl≠1∧fitsF p.level yl=true):=by
  show _↔_
  rw[HD.out,if_neg hp]
 clear HD hp
 cases ho:brFind l yp with
 | none =>
  rw[brIdx_none ho] at kI
  have KI:=Lib.hid kI
  have Hn:RowKit.Hid (¬ PA):=fun h=>by
   obtain⟨p,hpp,_⟩:=HDI.out.1 h
   rw[ho] at hpp
   cases hpp
  clear kI ho
  go_enter Tryz.func199,Tryz.ntmps199
  go_wp2_with fail
  refine(KI.out _ HGB.out).mono ?_
  rintro e w1 ⟨rfl,g1⟩
  have HW1:=Lib.hid (HGB.out.trans g1)
  clear g1
  dsimp only
  go_wp2
  go_ret
  exact RetIff.no 7 (by decide) Hn.out HW1.out
 | some p =>
  obtain⟨k,hk,ek,e⟩:=brIdx_some ho
  rw[ek] at kI
  have HDJ:RowKit.Hid (PA↔yl≠1∧fitsF p.level yl=true):=by
   show _↔_
   rw[HDI.out,ho]
   simp
  subst e
  have KI:=Lib.hid kI
  have HF:=Lib.hid (tFits l[k].level yl)
  have HCK:=Lib.hid (HCELL.out k hk)
  generalize fitsF l[k].level yl=ff at HDJ HF
  generalize hlv:l[k].level=pl at HF
  have HLV:=Lib.hid hlv
  have hkz:(k:Int)<(l.length:Int):=by omega
  have h0k:(0:Int)≤(k:Int):=by omega
  have hkn:¬ (k:Int)<0:=by omega
  clear kI ho ek hlv HDI
  go_enter Tryz.func199,Tryz.ntmps199
  go_wp2_with fail
  refine(KI.out _ HGB.out).mono ?_
  rintro e w1 ⟨rfl,g1⟩
  have HW1:=Lib.hid (HGB.out.trans g1)
  have f2:=Gr.cell (newer_cell g1 2 _ rfl)
  have t1:=Gr.cell (tree_cell g1 1 _ rfl)
  obtain⟨_,_,hq⟩:=HCK.out
  obtain⟨-,-,d2,-,-,-⟩:=hq w1 HW1.out
  rw[HLV.out] at d2
  have d2':=Gr.cell d2
  clear g1 hq d2 HCK
  dsimp only
  by_cases h1:yl=1
  ·subst h1
   have Hn:RowKit.Hid (¬ PA):=fun h=>(HDJ.out.1 h).1 rfl
   go_wp2
   refine region_gr w1 (by kernel_rfl) (by kernel_rfl) (Grew.refl _) ?_
   repeat (first|go_big_quiet_step (fail)|quiet_step (fail))
   refine wpQuiet_nil ?_
   intro _ hw'
   obtain⟨wi,rfl⟩:=hw'
   have HWI:=Lib.hid wi.g
   clear f2 t1 d2'
   go_wp2
   go_ret
   exact RetIff.no 18 (by decide) Hn.out (HW1.out.trans HWI.out)
  ·have h1':(yl == 1)=false:=by simpa using h1
   have Hy1:=Lib.hid h1
   clear h1
   cases ff with
   | false =>
    have Hn:RowKit.Hid (¬ PA):=fun h=>by have:=(HDJ.out.1 h).2;cases this
    go_wp2
    refine region_gr w1 (by kernel_rfl) (by kernel_rfl) (Grew.refl _) ?_
    repeat (first|go_big_quiet_step ((exact Gr.same _ (HF.out _)))|quiet_step ((exact Gr.same _ (HF.out _))))
    refine wpQuiet_nil ?_
    intro _ hw'
    obtain⟨wi,rfl⟩:=hw'
    have HWI:=Lib.hid wi.g
    clear f2 t1 d2'
    go_wp2
    go_ret
    exact RetIff.no 18 (by decide) Hn.out (HW1.out.trans HWI.out)
   | true =>
    have Hy:RowKit.Hid PA:=HDJ.out.2 ⟨Hy1.out,by first|rfl|trivial⟩
    go_wp2
    refine region_gr w1 (by kernel_rfl) (by kernel_rfl) (Grew.refl _) ?_
    repeat (first|go_big_quiet_step ((exact Gr.same _ (HF.out _)))|quiet_step ((exact Gr.same _ (HF.out _))))
    refine wpQuiet_nil ?_
    intro _ hw'
    obtain⟨wi,rfl⟩:=hw'
    have HWI:=Lib.hid wi.g
    clear f2 t1 d2'
    go_wp2
    go_ret
    exact RetIff.yes Hy.out (HW1.out.trans HWI.out)
end Go.Proofs.YtdochkemaiokfaaGreat
/- slices.Collect over slices.Values: a slice of its own that holds what the slice holds. No condition but the sizes that a slice can have. -/
namespace Go.Proofs.YtdochkemaiokfaaGreat
open Go.RowKit Go.Shelf
attribute [local go_sem] Oper.semAt_some
theorem infoI:(Tryz.prog.info? 3).map (fun i=>(i.zero,i.size,i.bytes))=some (some (.int .i64 0),1,8):=by kernel_rfl
set_option maxRecDepth 100000 in
set_option maxHeartbeats 2000000 in
theorem values1I_in (F:Fence) (n:Nat) (h7:F.fn 245) (hro:F.round=none) (hn:1≤n) (l Bs n₀ b off cap:Nat) (zs:List Int) (hreach:zs.length≤9223372036854775807) (hb:b<n₀) (J Jx:List Int→World→Prop)
  (hY:∀ pre x W,J pre W→pre.length<zs.length→YieldAt F (n-1) Tryz.prog l #[Value.int .i64 x] W fun e W' =>
   (e=.returned (.bool true)∧J (pre++[x]) W'∧Below n₀ W W')∨(e=.returned (.bool false)∧Jx (pre++[x]) W'))
  (W:World) (hBs:W.cell? ⟨Bs,0,none⟩=some (.slice (some ⟨b,off,none⟩) zs.length cap)) (hc:∀ j (hj:j<zs.length),W.cell? ⟨b,off+j,none⟩=some (Value.int .i64 zs[j])) (h0:J [] W) :
  CallsIn F n Tryz.prog 245 #[.func (.yield l) #[] #[],.pointer (some ⟨Bs,0,none⟩)] W fun e W'=>(∃ v,e=.returned v) ∧
   ((∃ ys,ys=zs∧J ys W')∨(∃ pre,pre <+: zs∧Jx pre W')):=by
 refine callsIn_of_wp Tryz.func245 rfl h7 ?_ hro
 simp only [Tryz.ntmps245,List.size_toArray,List.length_cons,List.length_nil,Nat.reduceAdd,Nat.reduceSub,Array.replicate_succ,Array.replicate_zero,List.push_toArray,List.append_toArray,List.nil_append,List.cons_append]
 have HC:=Lib.hid hc
 have HY:=Lib.hid hY
 clear hc hY
 gi_wp2
 gi_loopw [7] (fun i wr=>∃ k:Nat,k≤zs.length∧i=.int .i64 k∧J (zs.take k) wr∧Below n₀ W wr)
  (fun i _=>zs.length-(intOf i).toNat)
 case atStart=>exact⟨0,Nat.zero_le _,rfl,h0,Below.refl _ _⟩
 case round =>
  obtain⟨k,hk,rfl,hJs,hnx⟩:=hrel
  by_cases hlt:k<zs.length
  ·have hcx':wr.cell? ⟨b,off+k,none⟩=some (Value.int .i64 zs[k]):=(hnx.cell (p:=⟨b,off+k,none⟩) hb).trans (HC.out k hlt)
   obtain⟨fn,tmps,assign,body,hy,hR⟩:=HY.out _ zs[k] wr hJs (by rw[List.length_take];omega)
   have HT:=Lib.hid (List.take_succ_eq_append_getElem hlt)
   generalize zs[k]=y at hcx' hy hR HT
   gi_wp2
   refine hR.mono ?_
   rintro e W3 (⟨rfl,hJ3,hk3⟩|⟨rfl,hJx3⟩)
   ·gi_wp2
    go_roundw
    case rel=>exact⟨k+1,by omega,by simp,by rw[HT.out];exact hJ3,hnx.trans hk3⟩
    case measure=>simp[intOf];omega
   ·gi_wp2
    refine bodyPost_ret (results_none rfl _ _ _) rfl ?_
    exact⟨⟨_,rfl⟩,.inr ⟨_,by rw[← HT.out];exact List.take_prefix _ _,hJx3⟩⟩
  ·have e:zs.take k=zs:=List.take_of_length_le (by omega)
   rw[e] at hJs
   clear e
   gi_wp2
   go_end0
   exact⟨⟨_,rfl⟩,.inl ⟨_,rfl,hJs⟩⟩
set_option maxRecDepth 100000 in
set_option maxHeartbeats 1000000 in
theorem values1I_nil_in (F:Fence) (n:Nat) (h7:F.fn 245) (hro:F.round=none) (l Bs:Nat) (A:Option Addr) (cap:Nat) (J:List Int→World→Prop) (W:World) (hBs:W.cell? ⟨Bs,0,none⟩=some (.slice A 0 cap)) (h0:J [] W) :
  CallsIn F n Tryz.prog 245 #[.func (.yield l) #[] #[],.pointer (some ⟨Bs,0,none⟩)] W fun e W'=>(∃ v,e=.returned v)∧J [] W':=by
 refine callsIn_of_wp Tryz.func245 rfl h7 ?_ hro
 simp only [Tryz.ntmps245,List.size_toArray,List.length_cons,List.length_nil,Nat.reduceAdd,Nat.reduceSub,Array.replicate_succ,Array.replicate_zero,List.push_toArray,List.append_toArray,List.nil_append,List.cons_append]
 gi_wp2
 gi_loopw [7] (fun i wr=>i=.int .i64 0∧J [] wr) (fun _ _=>0)
 case atStart=>exact⟨rfl,h0⟩
 case round =>
  obtain⟨rfl,hJs⟩:=hrel
  gi_wp2
  go_end0
  exact⟨⟨_,rfl⟩,hJs⟩
theorem valuesI_any (A:Option Addr) (n c:Nat) (w:World):Calls Tryz.prog 230 #[.slice A n c] w fun e w'=>e=.returned (.func (.func 245) #[] #[.pointer (some ⟨w.heap.size,0,none⟩)])∧w.alloc (.cells #[.slice A n c] 38)=w':=by
 go_enter Tryz.func230,Tryz.ntmps230
 go_wp2
 go_ret
 exact⟨rfl,rfl⟩
theorem valuesI_stops (F:Fence) (n:Nat) (h7:F.fn 245) (hro:F.round=none) (hn:1≤n) (Bs n₀:Nat) (sv:Value) (zs:List Int) (w w0:World) (hBs:Bs<w.heap.size) (hn₀:n₀≤w.heap.size) (hw0:w0.heap.size=n₀) (hg:Below n₀ w0 w)
  (hc:w.cell? ⟨Bs,0,none⟩=some sv) (hI:SlI w0 sv zs) :
  SeqStopsK F n Tryz.prog 245 #[.pointer (some ⟨Bs,0,none⟩)] (fun x:Int=>#[Value.int .i64 x]) (Below n₀) (fun ys=>ys=zs) (fun pre=>pre <+: zs) zs.length w:=fun l J Jx W hW _ _ hY h0=>by
 have hc':=(hW.cell (p:=⟨Bs,0,none⟩) hBs).trans hc
 obtain⟨A,c,rfl,hlc,hcm,hr⟩:=hI.open_
 rcases Nat.eq_zero_or_pos zs.length with hz|hz
 ·obtain rfl:zs=[]:=List.eq_nil_of_length_eq_zero hz
  exact(values1I_nil_in F n h7 hro l Bs A c J W hc' h0).mono fun e W' ⟨he,hj⟩=>⟨he,.inl ⟨_,rfl,hj⟩⟩
 ·obtain⟨b,off,rfl,hb,hcell⟩:=hr hz
  have hgw:Grew w0 W:=by
   have:=hg.trans (hW.mono hn₀)
   unfold Grew
   rw[hw0]
   exact this
  exact values1I_in F n h7 hro hn l Bs n₀ b off c zs (by unfold maxLen at hcm;omega) (by omega) J Jx hY W hc' (fun j hj=>hcell W hgw j hj) h0
set_option maxRecDepth 100000 in
set_option maxHeartbeats 4000000 in
theorem appendSeqI_in (F:Fence) (n:Nat) (h3:F.fn 254) (h5:F.fn 245) (hro:F.round=none) (hn:3≤n) (Bs n₀:Nat) (sv:Value) (zs:List Int) (hlen:zs.length≤maxLen) (hbytes:zs.length*8≤140737488355328) (w w0:World)
  (hBs:Bs<w.heap.size) (hn₀:n₀≤w.heap.size) (hw0:w0.heap.size=n₀) (hg:Below n₀ w0 w) (hc:w.cell? ⟨Bs,0,none⟩=some sv) (hI:SlI w0 sv zs) :
  CallsIn F n Tryz.prog 254 #[.slice none 0 0,.func (.func 245) #[] #[.pointer (some ⟨Bs,0,none⟩)]] w fun e W'=>∃ v,e=.returned v∧W'.ownsRow w.heap.size 3 1 v zs.length (zs.map (Value.int .i64))∧Below w.heap.size w W':=by
 have h1:1≤n:=by omega
 obtain⟨i0,hi,hz0,hz1,hz2⟩:=info_parts infoI
 refine callsIn_of_wp_marks Tryz.func254 rfl h3 ?_ hro
 simp only [Tryz.ntmps254,List.size_toArray,List.length_cons,List.length_nil,Nat.reduceAdd,Nat.reduceSub,Array.replicate_succ,Array.replicate_zero,List.push_toArray,List.append_toArray,List.nil_append,List.cons_append]
 unfold maxLen at hlen
 gi_wp2
 have bO:=Boxed.new w 38 (.slice none 0 0)
 have hB0:Below w.heap.size w (w.alloc (.cells #[.slice none 0 0] 38)):=(Below.refl _ w).alloc (Nat.le_refl _) _
 refine wpIn_rangeFunc_ownG hro h1 (gf:=245) (lb:=#[.pointer (some ⟨Bs,0,none⟩)]) rfl h5 (enters_of Tryz.func245 (by kernel_rfl) rfl)
  (valuesI_stops F (n-1) h5 hro (by omega) Bs n₀ sv zs _ w0 (by simp;omega) (by simp;omega) hw0 (hg.trans (hB0.mono hn₀)) ((World.cell?_alloc_lt _ _ _ hBs).trans hc) hI) belowK_t (belowK_b (by simp;omega)) (Below.refl _ _) (fun _=>rfl)
  (fun pre W=>(∃ v,Boxed W w.heap.size 38 v∧W.ownsRow w.heap.size 3 1 v pre.length (pre.map (Value.int .i64))∧(v=.slice none 0 0↔pre=[]))∧Below w.heap.size w W)
  (fun _ _ _=>False)
  (OwnFrom.and (Own.from (holdsRow_own w.heap.size w.heap.size 38 3 1 (fun pre=>pre.length) (fun pre=>pre.map (Value.int .i64)) (fun pre v=>v=.slice none 0 0↔pre=[])) _) (ownFrom_below (Nat.le_refl _) (by simp)))
  (fun _ _ _ _ _ hs _ _=>hs)
  ⟨⟨_,bO,World.ownsRow_nil _ _ _ _,by simp⟩,hB0⟩
  (fun x=>{ tmps:=#[.slice none 0 0,.func (.func 245) #[] #[.pointer (some ⟨Bs,0,none⟩)],.pointer (some ⟨w.heap.size,0,none⟩),undef,.slice none 0 0,Value.int .i64 x,.func (.func 245) #[] #[.pointer (some ⟨Bs,0,none⟩)],Value.int .i64 x,undef,undef,undef,undef,undef],defers:=[] }) ?assign ?body ?done ?stop
 case assign =>
  intro l x W K hK
  gi_wp2
  exact hK
 case body =>
  rintro l pre x W ⟨⟨v,hv,hrow,hnil⟩,hB⟩ hlt
  have hc:=hv.cell
  gi_wp2_with (gi_at_builtin;refine wpListIn_append_own _ rfl _ _ 38 rfl w.heap.size 3 i0 (.int .i64 0) 1 8 Tryz.underlying38 hi hz0 hz1 hz2 rfl (by decide) _ _ _ rfl (hrow.alloc _) ⟨W.heap.size,0,none⟩ 1 1 [Value.int .i64 x] rfl rfl (cell_one_new _ _ _) (by simp[Value.oneCell']) (by unfold maxLen;omega) (by omega) (by have:=hB.size;simp;omega) ?_;intro v' w1 hown' hgrow _;obtain⟨g',cap',rfl⟩:=ownsRow_succ hown';obtain⟨hv1,hv2,hr2,hk2,hb2⟩:=hv.appended (by decide) hrow hB.size (Nat.le_refl _) hown' hgrow;have hc1:=hv1.cell;have hf1:=hv1.frozen)
  exact⟨hk2.from _,hb2.mono hn₀,⟨_,hv2,by simpa using hr2,by simp⟩,hB.trans hb2⟩
 case done =>
  rintro D ys W hD rfl ⟨⟨v,hv,hrow,hnil⟩,hB⟩ hK
  have hc:=hv.cell
  gi_wp2
  refine⟨by simp,.inl ⟨_,_,rfl,run_takeDeferred hK,?_⟩⟩
  exact⟨_,results_tmp rfl _ _ _,v,rfl,ownsRow_putObj hrow _ hK rfl,hB.trans (belowK_b (w:=w) (Nat.le_refl _) W D _ _ (by simp at hD;omega) hK rfl rfl)⟩
 case stop =>
  rintro D c pre W _ _ h _
  exact h.elim
theorem collectI_any (sv:Value) (zs:List Int) (hbytes:zs.length*8≤140737488355328) (Bs:Nat) (w w0:World) (hBs:Bs<w.heap.size) (hg:Grew w0 w) (hc:w.cell? ⟨Bs,0,none⟩=some sv) (hI:SlI w0 sv zs) :
  Calls Tryz.prog 243 #[.func (.func 245) #[] #[.pointer (some ⟨Bs,0,none⟩)]] w fun e w'=>∃ v,e=.returned v∧w'.ownsRow w.heap.size 3 1 v zs.length (zs.map (Value.int .i64))∧Grew w w':=by
 have hl:zs.length≤maxLen:=by unfold maxLen;omega
 have ha:=callsIn_wide.1 (appendSeqI_in Fence.wide 3 trivial trivial rfl (by omega) Bs w0.heap.size sv zs hl hbytes w w0 hBs hg.size rfl hg hc hI)
 have HA:=Lib.hid ha
 clear ha
 go_enter Tryz.func243,Tryz.ntmps243
 go_wp2_with (first|(go_at_call 254;refine HA.out.mono ?_;rintro e w1 ⟨v,rfl,ho,hb⟩))
 go_ret
 exact⟨v,rfl,ho,hb⟩
end Go.Proofs.YtdochkemaiokfaaGreat
/- slices.Sort and slices.Sorted at numbers. No condition but the sizes that a slice can have. -/
namespace Go.Proofs.YtdochkemaiokfaaGreat
open Go.RowKit Go.Sort
theorem grew_sortedI {w0 w1:World} {blk off:Nat} (hb:w0.heap.size≤blk) (hg:Grew w0 w1) (d:Array Int) (n:Nat) (os:Array Obj):Grew w0 (grow (putRow (Value.int .i64) (Sort.ahead w1 n) blk off d) os):=by
 refine⟨hg.os,hg.tape,hg.output,?_,fun k hk=>?_⟩
 ·have:=hg.size
  simp
  omega
 ·have h1:=hg.size
  rw[heap_grow_old _ _ (by simp;omega)]
  have:(putRow (Value.int .i64) (Sort.ahead w1 n) blk off d).heap[k]? = w1.heap[k]?:=by
   simp only [putRow,mapBlock,heap_ahead,Array.getElem?_modify]
   rw[if_neg (by omega)]
  rw[this]
  exact hg.block k hk
theorem flat_int (l:List Int):l.flatMap oneI=l.map (Value.int .i64):=by
 induction l with
 | nil=>rfl
 | cons x r ih=>simp[List.flatMap_cons,oneI,ih]
theorem holdsI_of_own {w:World} {base:Nat} {e:TypeId} {g cap:Nat} {l:List Int} (h:w.ownsRow base e 1 (.slice (some ⟨g,0,none⟩) l.length cap) l.length (l.flatMap oneI)):Holds (Value.int .i64) w g 0 l.toArray:=by
 intro j hj
 have hj':j<l.length:=by simpa using hj
 refine⟨?_,by rw[Nat.zero_add];exact h.frozenAt j⟩
 rw[Nat.zero_add,h.cellAt j (by omega),flat_int]
 simp[hj']
theorem slI_of_holds {w:World} {g cap:Nat} {d:List Int} (h:Holds (Value.int .i64) w g 0 d.toArray) (hg:g<w.heap.size) (h1:d.length≤cap) (h2:cap≤maxLen):SlI w (.slice (some ⟨g,0,none⟩) d.length cap) d:=by
 refine⟨some ⟨g,0,none⟩,d.length,cap,rfl,flatMap_len oneI 1 (fun _=>rfl) d,h1,h2,fun _=>⟨g,0,rfl,hg,fun j u hu=>?_⟩⟩
 rw[flat_int,List.getElem?_map] at hu
 have hj:j<d.length:=by
  rcases Nat.lt_or_ge j d.length with hlt|hge
  ·exact hlt
  ·rw[List.getElem?_eq_none hge] at hu;cases hu
 rw[List.getElem?_eq_getElem hj] at hu
 simp only [Option.map_some,Option.some.injEq] at hu
 have:=(h j (by simpa using hj)).1
 rw[this,← hu]
 simp[hj]
theorem sort_own (l:List Int) (w0:World) (e:TypeId) (v:Value) (w:World) (hown:w.ownsRow w0.heap.size e 1 v l.length (l.flatMap oneI)) (hg:Grew w0 w) (hl:l.length≤1000000) :
  Calls Tryz.prog 244 #[v] w fun en w'=>en=.returned (.tuple #[])∧SlI w' v (sortI l)∧Grew w0 w':=by
 rcases Nat.eq_zero_or_pos l.length with h0|h0
 ·obtain rfl:l=[]:=List.eq_nil_of_length_eq_zero h0
  have hv:∃ A c,v=.slice A 0 c:=by
   rcases hown.2 with ⟨rfl,_⟩|⟨g,cap,cur,rfl,_⟩
   ·exact⟨_,_,rfl⟩
   ·exact⟨_,_,rfl⟩
  obtain⟨A,c,rfl⟩:=hv
  refine(Tryz.slices_Sort_int_none A c w).mono ?_
  rintro en w' ⟨rfl,rfl⟩
  refine⟨rfl,?_,hg⟩
  rw[show sortI []=[] by simp[sortI]]
  exact Rd.of_own hown
 ·obtain⟨g,cap,rfl,hbg,hlt,hcap⟩:=own_form hown h0
  have hH:=holdsI_of_own hown
  refine(Tryz.slices_Sort_int g 0 cap l w hH hlt (by omega)).mono ?_
  rintro en w' ⟨rfl,n,os,rfl⟩
  have hl2:(sortI l).length=l.length:=(List.mergeSort_perm l _).length_eq
  have hh2:Holds (Value.int .i64) (grow (putRow (Value.int .i64) (Sort.ahead w n) g 0 (sortI l).toArray) os) g 0 (sortI l).toArray :=
   holds_grow _ _ _ _ _ _ (by simpa using hlt) (holds_putRow _ _ _ _ _ _ (holds_ahead _ _ _ _ _ _ hH) (by simp[hl2]))
  refine⟨rfl,?_,grew_sortedI hbg hg _ _ _⟩
  have:=slI_of_holds hh2 (by simp;omega) (by rw[hl2];exact hcap) (own_max hown)
  rw[hl2] at this
  exact this
theorem sortedI_any (sv:Value) (zs:List Int) (hz:zs.length≤1000000) (Bs:Nat) (w w0:World) (hBs:Bs<w.heap.size) (hg:Grew w0 w) (hc:w.cell? ⟨Bs,0,none⟩=some sv) (hI:SlI w0 sv zs) :
  Calls Tryz.prog 229 #[.func (.func 245) #[] #[.pointer (some ⟨Bs,0,none⟩)]] w fun e w'=>∃ v,e=.returned v∧SlI w' v (sortI zs)∧Grew w w':=by
 have hco:=Lib.hid (collectI_any sv zs (by omega) Bs w w0 hBs hg hc hI)
 clear hc hI hg hBs
 go_enter Tryz.func229,Tryz.ntmps229
 go_wp2_with fail
 refine hco.out.mono ?_
 rintro e w1 ⟨v,rfl,ho,hb⟩
 rw[← flat_int] at ho
 have HS:=Lib.hid (sort_own zs w _ v w1 ho hb hz)
 clear ho
 dsimp only
 go_wp2_with fail
 refine HS.out.mono ?_
 rintro e w2 ⟨rfl,hs2,g2⟩
 have HS2:=Lib.hid hs2
 clear hs2
 dsimp only
 go_wp2
 go_ret
 exact⟨_,rfl,HS2.out,g2⟩
end Go.Proofs.YtdochkemaiokfaaGreat
/- slices.Index, Contains at numbers; slices.Clone at numbers and relations. No condition but the sizes that a slice can have. -/
namespace Go.Proofs.YtdochkemaiokfaaGreat
open Go.RowKit
set_option maxHeartbeats 1000000 in
theorem indexI (l:List Int) (x:Int) (v:Value) (w:World) (hv:SlI w v l) :
  Calls Tryz.prog 58 #[v,.int .i64 x] w fun e w'=>e=.returned (.int .i64 (idxP (fun y=>(x == y)) l))∧w=w':=by
 obtain⟨A,c,rfl,hlc,hc,hr⟩:=hv.open_
 unfold maxLen at hc
 have HR:=Lib.hid hr
 clear hr hv
 generalize hp:(fun y:Int=>(x == y))=p
 have HP:=Lib.hid hp
 clear hp
 go_enter Tryz.func58,Tryz.ntmps58
 go_wp2
 go_loop [5,8] (fun _ s8=>∃ kk:Nat,kk≤l.length∧s8=.int .i64 kk∧Aside (∀ i (hi:i<l.length),i<kk→p l[i]=false)) (fun _ i=>l.length-(intOf i).toNat)
 case atStart=>exact⟨0,Nat.zero_le _,rfl,fun i hi h=>absurd h (Nat.not_lt_zero _)⟩
 case round =>
  obtain⟨kk,hkk,rfl,M⟩:=hrel
  by_cases hlt:kk<l.length
  ·obtain⟨b,off,rfl,hb,hcell⟩:=HR.out (by omega)
   have c0:=hcell w (Grew.refl w) kk hlt
   clear hcell
   have hq0:p l[kk]=(x == l[kk]):=by rw[← HP.out]
   generalize hy:l[kk]=y at c0 hq0
   have B:Aside (l[kk]=y):=hy
   clear hy
   cases hq:p y with
   | true =>
    rw[hq] at hq0
    have hq1:=hq0.symm
    have Hq:Aside (p y=true):=hq
    clear hq0 hq
    go_wp2
    go_ret
    refine⟨?_,rfl⟩
    rw[idxP_hit p l kk hlt (by rw[B.out];exact Hq.out) M.out]
    rfl
   | false =>
    rw[hq] at hq0
    have hq1:=hq0.symm
    have Hq:Aside (p y=false):=hq
    clear hq0 hq
    go_wp2
    go_round
    case measure=>simp[intOf];omega
    case rel =>
     refine⟨kk+1,by omega,by go_num,(show Aside _ from fun i hi h=>?_)⟩
     by_cases e:i=kk
     ·subst e
      rw[B.out];exact Hq.out
     ·exact M.out i hi (by omega)
  ·go_wp2
   go_ret
   refine⟨?_,rfl⟩
   rw[idxP_miss p l (fun i hi=>M.out i hi (by omega))]
   rfl
theorem containsI (l:List Int) (x:Int) (v:Value) (w:World) (hv:SlI w v l) :
  Calls Tryz.prog 35 #[v,.int .i64 x] w fun e w'=>e=.returned (.bool (l.any fun y=>(x == y)))∧w=w':=by
 have hi:=Lib.hid (indexI l x v w hv)
 have hd:=idxP_any (fun y=>(x == y)) l
 generalize idxP (fun y=>(x == y)) l=i at hi hd
 have Hd:=Lib.hid hd
 clear hv hd
 go_enter Tryz.func35,Tryz.ntmps35
 go_wp2_with (first|(go_at_call 58;refine hi.out.mono ?_;rintro e w1 ⟨rfl,rfl⟩))
 go_ret
 exact⟨ret_bool Hd.out,rfl⟩
theorem cinfoI:(Tryz.prog.info? 3).map (fun i=>(i.zero,i.size,i.bytes))=some (some (.int .i64 0),1,8):=by kernel_rfl
theorem one_cellsI (l:List Int):∀ u∈l.flatMap oneI,u.oneCell'=true:=by
 intro u hu
 rw[List.mem_flatMap] at hu
 obtain⟨x,_,hx⟩:=hu
 simp[oneI] at hx
 rcases hx with rfl<;>rfl
set_option maxHeartbeats 1000000 in
theorem cloneI (l:List Int) (v:Value) (w:World) (hv:SlI w v l) (hb:l.length*8≤140737488355328) :
  Calls Tryz.prog 144 #[v] w fun e w'=>∃ v',e=.returned v'∧w'.ownsRow w.heap.size 3 1 v' l.length (l.flatMap oneI)∧Grew w w':=by
 obtain⟨A,n,c,rfl,hl,hn,hc,hr⟩:=hv
 have hfl:=flatMap_len oneI 1 (fun _=>rfl) l
 obtain rfl:n=l.length:=by omega
 unfold maxLen at hc
 have q22:∀(w:World) (a:Option Addr) (n c:Nat),(binOp .eql 38 (.slice a n c) (.slice none 0 0)).run Tryz.prog w=.ok (.bool a.isNone) w:=fun w a n c=>Lib.run_eql_slice_nil w _ _ a n c 0 0 Tryz.underlying38
 cases A with
 | none =>
  have h0:l.length=0:=by
   rcases Nat.eq_zero_or_pos l.length with h|h
   ·exact h
   ·obtain⟨b,off,hA,_⟩:=hr h
    cases hA
  obtain rfl:l=[]:=List.eq_nil_of_length_eq_zero h0
  clear hr hl hn hfl h0 hb
  go_enter Tryz.func144,Tryz.ntmps144
  go_wp2
  go_ret
  exact⟨_,rfl,World.ownsRow_nil _ _ _ _,Grew.refl w⟩
 | some ad =>
  have hcells:∀ j u,(l.flatMap oneI)[j]? = some u→w.cell? (ad.add j)=some u:=by
   intro j u hu
   have h0:0<l.length:=by
    rcases Nat.eq_zero_or_pos l.length with h|h
    ·have:=(List.getElem?_eq_some_iff.1 hu).1
     rw[hfl,h] at this
     omega
    ·exact h
   obtain⟨b,off,hA,_,hcell⟩:=hr h0
   cases hA
   rw[add_lit]
   exact hcell j u hu
  have HC:=Lib.hid hcells
  have H1:=Lib.hid (one_cellsI l)
  have HL:=Lib.hid hl
  generalize l.flatMap oneI=cs at HC H1 HL ⊢
  clear hcells hr hl hfl
  obtain⟨i0,hi,hz0,hz1,hz2⟩:=info_parts cinfoI
  go_enter Tryz.func144,Tryz.ntmps144
  go_wp2_with (at_builtin;refine wpList_append_own _ rfl _ _ 38 rfl w.heap.size 3 i0 (.int .i64 0) 1 8 Tryz.underlying38 hi hz0 hz1 hz2 rfl (by omega) _ _ _ rfl (World.ownsRow_made w #[] 0 (Nat.le_refl _) (Nat.zero_le _) (by simp)) ad l.length c cs rfl ?qc1 ?qc2 ?qc3 ?qc4 ?qc5 ?qc6 ?_)
  case qc1=>exact HL.out
  case qc2=>exact fun j u hu=>(Grew.cell ((Grew.refl w).alloc _) (by
   have:=block_lt_of_cell (HC.out j u hu)
   exact this)).trans (HC.out j u hu)
  case qc3=>exact H1.out
  case qc4=>unfold maxLen;omega
  case qc5=>omega
  case qc6=>simp
  intro v' w1 hown hgrow _
  go_wp2
  go_ret
  refine⟨v',rfl,by simpa using hown,?_⟩
  exact Below.grown ((Below.refl w.heap.size w).alloc (Nat.le_refl _) _) hgrow (by simp) (fun k hk=>by simp[Value.ownBlock] at hk;omega)
end Go.Proofs.YtdochkemaiokfaaGreat