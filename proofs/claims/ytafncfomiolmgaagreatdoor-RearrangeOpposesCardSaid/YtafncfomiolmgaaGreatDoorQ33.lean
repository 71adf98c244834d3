/- Lemmas on what the functions of the program and of the library compute: Rf2, Rf3, Rf4, Rf5, Rf6, Rf8, PlainTl, PlainBd, LBu. The conditions stand at each. -/
import Derived.Test.YtafncfomiolmgaaGreatDoorQ32
import Derived.Deep.AppendLies
import Derived.Test.YtafncfomiolmgaaGreatDoorQ7
import Derived.BigQuiet
import Derived.Test.YtafncfomiolmgaaGreatDoorQ9
import Derived.Test.YtafncfomiolmgaaGreatDoorQ16
import Derived.Test.YtafncfomiolmgaaGreatDoorQ8
import Derived.Test.YtafncfomiolmgaaGreatDoorQ10
import Derived.Test.YtafncfomiolmgaaGreatDoorQ11
import Derived.Test.YtafncfomiolmgaaGreatDoorQ17
import Derived.Test.YtafncfomiolmgaaGreatDoorQ27
namespace Go.Proofs.YtafncfomiolmgaaGreatDoor
open Go.RowKit
structure CloneAt (w:World) (t:Tr) (tb:Array Value) (rv bv:Value) (cs:List BrC) (X k:Nat) (wr:World):Prop where
 cop:CopB (fun x=>X<x) w.heap.size wr bv cs (t.brs.take k)
 roots:OwnI w.heap.size wr rv t.roots
 box:wr.heap[X]? = some (.cells #[rv,bv] 35 (0,0))
 src:wr.heap[w.heap.size]? = some (.cells tb 35 (0,0))
 res:wr.heap[w.heap.size+1]? = some (.cells #[.slice none 0 0,.slice none 0 0] 35 (0,0))
 lo:w.heap.size+2≤X
 grew:Grew w wr
theorem CloneAt.step {w wr w5 w3:World} {t:Tr} {tb:Array Value} {rv bv v5 bv':Value} {cs:List BrC} {X k:Nat} {o1 o2:Obj} (h:CloneAt w t tb rv bv cs X k wr) (hk:k<t.brs.length) (hg5:Grew (wr.alloc o1) w5) (ho5:OwnI (wr.alloc o1).heap.size w5 v5 t.brs[k].kids)
  (hgr:((w5.setCell ⟨wr.heap.size,5,none⟩ v5).alloc o2).grownBy w3 bv.ownBlock) (hown:w3.ownsRow w.heap.size 53 6 bv' (k+1) (cs.flatMap BrC.cells++(t.brs[k].c v5).cells)) (hat:∀ b,bv'.ownBlock=some b→bv.ownBlock=some b∨b=(w5.setCell ⟨wr.heap.size,5,none⟩ v5).heap.size+1) :
  CloneAt w t tb rv bv' (cs++[t.brs[k].c v5]) X (k+1) (w3.setCell ⟨X,1,none⟩ bv'):=by
 have hXl:X<wr.heap.size:=(Array.getElem?_eq_some_iff.1 h.box).1
 have hlo:=h.lo
 rw[size_allocB] at ho5
 have g5:Grew wr w5:=((uX wr).alloc o1).trans hg5
 have g6:Grew wr (w5.setCell ⟨wr.heap.size,5,none⟩ v5):=g5.setCell (Nat.le_refl _) v5
 have hs5:=g5.size
 have g7:=g6.alloc o2
 have hs7:((w5.setCell ⟨wr.heap.size,5,none⟩ v5).alloc o2).heap.size=w5.heap.size+1:=by rw[size_allocB];simp
 have hs6:(w5.setCell ⟨wr.heap.size,5,none⟩ v5).heap.size=w5.heap.size:=by simp
 have hb5:∀ b,blk v5=some b→wr.heap.size+1≤b:=fun b hb=>(ho5.lt b (blk_own hb)).1
 have hv6:SlI (w5.setCell ⟨wr.heap.size,5,none⟩ v5) v5 t.brs[k].kids:=rd_blk v5 (Rd.of_own ho5) (fun e=>by have:wr.heap.size+1≤wr.heap.size:=hb5 _ e;omega)
 have hlen:(t.brs.take k).length=k:=by rw[List.length_take];omega
 have hbvX:bv.ownBlock≠some X:=own_ne h.cop.brs h.box ne_BT
 have c3:=h.cop.step (w2:=(w5.setCell ⟨wr.heap.size,5,none⟩ v5).alloc o2) (w3:=w3) (bv':=bv') t.brs[k] (t.brs[k].c v5) g7 ⟨rfl,hv6.mono ((uX _).alloc o2)⟩ (fun x hx=>by have:=hb5 x hx;exact⟨by omega,by omega⟩) hgr (by rw[hlen];exact hown) (fun b hb=>(hat b hb).imp_right fun e=>by omega)
 have htk:t.brs.take (k+1)=t.brs.take k++[t.brs[k]]:=List.take_succ_eq_append_getElem hk
 rw[← htk] at c3
 have hbv'X:bv'.ownBlock≠some X:=fun e=>by
  rcases hat X e with h1|h1
  ·exact hbvX h1
  ·omega
 have hX3:=heap_kept (uK g7 h.box) hgr hbvX
 have hr3:=own_kept (own_later h.roots g7) hgr (fun g hr hv=>own_off h.roots h.cop.brs ne_IB g hv hr)
 have keep:∀ {Y:Nat} {c:Array Value},wr.heap[Y]? = some (.cells c 35 (0,0))→Y≠X→(w3.setCell ⟨X,1,none⟩ bv').heap[Y]? = some (.cells c 35 (0,0)):=fun hY hne =>
  heap_set _ _ (heap_kept (uK g7 hY) hgr (own_ne h.cop.brs hY ne_BT)) hne
 refine⟨c3.aside _ _ hbv'X (Nat.lt_irrefl X),ownsRow_setCell_other hr3 (own_ne hr3 hX3 ne_IT) _,?_,keep h.src b_37,keep h.res b_37,hlo,?_⟩
 ·have:=heap_setCell_same w3 X 1 #[rv,bv] 35 bv' hX3
  simpa using this
 ·exact(Below.grown (h.grew.trans g7) hgr (by have:=h.grew.size;omega) (fun b hb=>(h.cop.brs.lt b hb).1)).setCell (by show w.heap.size≤X;omega) _
theorem CloneAt.done {w wr:World} {t:Tr} {tb:Array Value} {rv bv x y:Value} {cs:List BrC} {X:Nat} (h:CloneAt w t tb rv bv cs X t.brs.length wr):SlI ((wr.setCell ⟨w.heap.size+1,0,none⟩ x).setCell ⟨w.heap.size+1,1,none⟩ y) rv t.roots∧OffB (fun k=>w.heap.size≤k) bv rv∧CopB (fun k=>w.heap.size≤k) w.heap.size ((wr.setCell ⟨w.heap.size+1,0,none⟩ x).setCell ⟨w.heap.size+1,1,none⟩ y) bv cs t.brs∧Grew w ((wr.setCell ⟨w.heap.size+1,0,none⟩ x).setCell ⟨w.heap.size+1,1,none⟩ y):=by
 have hR2:=heap_setCell_same wr (w.heap.size+1) 0 _ _ x h.res
 have hlo:=h.lo
 have hc:=h.cop
 rw[List.take_length] at hc
 have r1:=ownsRow_setCell_other (a:=⟨w.heap.size+1,0,none⟩) h.roots (own_ne h.roots h.res ne_IT) x
 have r2:=ownsRow_setCell_other (a:=⟨w.heap.size+1,1,none⟩) r1 (own_ne r1 hR2 ne_IT) y
 have c1:=hc.aside ⟨w.heap.size+1,0,none⟩ x (own_ne hc.brs h.res ne_BT) (by show ¬ X<w.heap.size+1;omega)
 have c2:=c1.aside ⟨w.heap.size+1,1,none⟩ y (own_ne hc.brs h.res ne_BT) (by show ¬ X<w.heap.size+1;omega)
 exact⟨Rd.of_own r2,fun k hk=>⟨fun e=>own_off h.roots hc.brs ne_IB k (blk_own hk) e,(h.roots.lt k (blk_own hk)).1⟩,c2.to (Nat.le_refl _) (fun k _ hk=>by omega),(h.grew.setCell b_31 _).setCell b_31 _⟩
set_option maxHeartbeats 8000000 in
set_option maxRecDepth 100000 in
theorem ref21Clone (t:Tr) (rv bv:Value) (w:World) (hr:SlI w rv t.roots) (hv:SlBr w bv t.brs) (hf:FewBr t.brs) (hrl:t.roots.length≤1000000) :
  Calls Tryz.prog 144 #[.agg #[rv,bv]] w (RetCop t w):=by
 have HRD:=uZ hr
 have HFK:=uZ (fun k (hk:k<t.brs.length)=>hf.2 k hk)
 have hfl1:=hf.1
 obtain⟨Ar,cr,rfl,-⟩:=SlI.open_ hr
 obtain⟨Ab,cb,rfl,-,-,hbr⟩:=SlBr.open_ hv
 have HBR:=uZ hbr
 obtain⟨k0,hk0,hx0,hx1,hx2⟩:=info_parts cinfoI
 obtain⟨i0,hi0,hz0,hz1,hz2⟩:=info_parts cinfoB
 clear hr hv hf hbr
 have GA:=uZ (((uX w).alloc (.cells #[.slice Ar t.roots.length cr,.slice Ab t.brs.length cb] 35)).alloc (.cells #[.slice none 0 0,.slice none 0 0] 35))
 have hXA:=uK ((uX (w.alloc (.cells #[.slice Ar t.roots.length cr,.slice Ab t.brs.length cb] 35))).alloc (.cells #[.slice none 0 0,.slice none 0 0] 35)) (heap_allocE (a:=w) (X:=w.heap.size) rfl)
 have hRA:=heap_allocE (a:=w.alloc (.cells #[.slice Ar t.roots.length cr,.slice Ab t.brs.length cb] 35)) (X:=w.heap.size+1) (p:=.cells #[.slice none 0 0,.slice none 0 0] 35) b_38
 have hSA:((w.alloc (.cells #[.slice Ar t.roots.length cr,.slice Ab t.brs.length cb] 35)).alloc (.cells #[.slice none 0 0,.slice none 0 0] 35)).heap.size=w.heap.size+2:=by rw[size_allocB,size_allocB]
 have hflr:=flatMap_len oneI 1 (fun _=>rfl) t.roots
 obtain⟨WA,hWA⟩:∃ WA,WA=(w.alloc (.cells #[.slice Ar t.roots.length cr,.slice Ab t.brs.length cb] 35)).alloc (.cells #[.slice none 0 0,.slice none 0 0] 35):=⟨_,rfl⟩
 rw[← hWA] at hXA hRA hSA GA
 have HXA:=uZ hXA
 have HRA:=uZ hRA
 have HSA:=uZ hSA
 have HWA:=uZ hWA
 clear hXA hRA hSA hWA
 go_enter Tryz.func144,Tryz.ntmps144
 go_wp2_with (at_builtin;rw[← HWA.out];refine appR rfl _ _ 32 rfl WA 3 k0 (.int .i64 0) 1 8 Tryz.underlying32 hk0 hx0 hx1 hx2 rfl b_37 _ 0 [] b_39 _ (own_lit (w.heap.size+2) HSA.out (by rw[HSA.out];exact Nat.le_refl _)) ((uX _).alloc _) _ t.roots.length (t.roots.flatMap oneI) b_39 (Rd.mono HRD.out (GA.out.trans ((uX _).alloc _))) hflr (one_cellsI _) b_34 b_37 ?_;intro v1 w1 o1 g1 _;simp only [Nat.zero_add,List.nil_append] at o1;obtain⟨A1,c1,rfl⟩:=own_slice o1;have O1:=uZ o1;have G1:=uZ g1;clear o1 g1)
 have hX1:=heap_allocE (a:=w1) (X:=w1.heap.size) (p:=.cells #[.slice A1 t.roots.length c1,.slice none 0 0] 35) rfl
 have HG1:=uZ (GA.out.trans G1.out)
 have HST:=uZ (show CloneAt w t #[.slice Ar t.roots.length cr,.slice Ab t.brs.length cb] (.slice A1 t.roots.length c1) (.slice none 0 0) [] w1.heap.size 0 (w1.alloc (.cells #[.slice A1 t.roots.length c1,.slice none 0 0] 35)) from
  ⟨by rw[List.take_zero];exact CopB.none_,own_later (World.ownsRow.mono O1.out GA.out.size) ((uX w1).alloc _),hX1,uK (G1.out.alloc _) HXA.out,uK (G1.out.alloc _) HRA.out,by have:=G1.out.size;rw[HSA.out] at this;exact this,HG1.out.alloc _⟩)
 clear hX1 HG1 O1 G1 HXA HRA HSA HWA GA HRD hflr
 generalize w1.heap.size=X at HST ⊢
 generalize w1.alloc (.cells #[.slice A1 t.roots.length c1,.slice none 0 0] 35)=WB at HST ⊢
 go_loopg [4] t.brs.length (fun gg s4 wr=>∃(k:Nat) (bv:Value) (cs:List BrC),k≤t.brs.length∧t.brs.length-k≤gg∧s4=.int .i64 k∧Aside (CloneAt w t #[.slice Ar t.roots.length cr,.slice Ab t.brs.length cb] (.slice A1 t.roots.length c1) bv cs X k wr))
 case atStart=>exact⟨0,_,_,by omega,by omega,rfl,(show Aside _ from HST.out)⟩
 case round =>
  clear HST
  obtain⟨k,bv,cs,hkl,hgk,rfl,HC⟩:=hrel
  have y0:wr.cell? ⟨w.heap.size,0,none⟩=some (.slice Ar t.roots.length cr):=by have:=HC.out.src;simp[World.cell?,this]
  have y1:wr.cell? ⟨w.heap.size,1,none⟩=some (.slice Ab t.brs.length cb):=by have:=HC.out.src;simp[World.cell?,this]
  by_cases hlt:k<t.brs.length
  ·have hltz:(k:Int)<(t.brs.length:Int):=by omega
   have h0z:(0:Int)≤(k:Int):=by omega
   obtain⟨b,off,rfl,hb,hcell⟩:=HBR.out b_37
   obtain⟨kv,hkv,hcl⟩:=hcell k hlt
   obtain⟨c0,c1',c2,c3,c4,c5⟩:=hcl wr HC.out.grew
   have HKV:=uZ (hkv.mono HC.out.grew)
   have hfk:=HFK.out k hlt
   obtain⟨Ak,ck,rfl,-⟩:=SlI.open_ hkv
   have HSTEP:=uZ (fun w5 w3 v5 bv' o1 o2 h1 h2 h3 h4 h5=>HC.out.step (w5:=w5) (w3:=w3) (v5:=v5) (bv':=bv') (o1:=o1) (o2:=o2) hlt h1 h2 h3 h4 h5)
   have HROW:=uZ HC.out.cop.brs
   have HGW:=uZ HC.out.grew
   have hXl:X<wr.heap.size:=(Array.getElem?_eq_some_iff.1 HC.out.box).1
   have hXlo:=HC.out.lo
   have HBX:=uZ HC.out.box
   have HBXn:=uZ (own_ne HC.out.cop.brs HC.out.box ne_BT)
   have hlen:(t.brs.take k).length=k:=by rw[List.length_take];omega
   rw[hlen] at HROW
   clear hcell hcl hkv HC y0 hlen
   generalize t.brs[k]=y at c0 c1' c2 c3 c4 c5 HKV hfk HSTEP
   obtain⟨yi,yp,yl,yt,ym,yk⟩:=y
   dsimp only at c0 c1' c2 c3 c4 c5 HKV hfk HSTEP
   have hfx:=flatMap_len oneI 1 (fun _=>rfl) yk
   have hne:¬ X=wr.heap.size:=by omega
   go_wp2_with (first|(at_builtin;refine appR rfl _ _ 32 rfl (wr.alloc (.cells #[.int .i64 yi,.int .i64 yp,.int .i64 yl,.string yt,.string ym,.slice Ak yk.length ck] 53)) 3 k0 (.int .i64 0) 1 8 Tryz.underlying32 hk0 hx0 hx1 hx2 rfl b_37 _ 0 [] b_39 _ (own_lit (wr.heap.size+1) b_38 b_38) ((uX _).alloc _) _ yk.length (yk.flatMap oneI) b_39 (Rd.mono HKV.out (((uX _).alloc _).alloc _)) hfx (one_cellsI _) b_34 b_37 ?_;intro v5 w5 o5 g5 _;simp only [Nat.zero_add,List.nil_append] at o5;obtain⟨A5,c5',rfl⟩:=own_slice o5;have O5:=uZ o5;have G5:=uZ g5;have d0:=yQ g5 0 _ rfl;have d1:=yQ g5 1 _ rfl;have d2:=yQ g5 2 _ rfl;have d3:=yQ g5 3 _ rfl;have d4:=yQ g5 4 _ rfl;have d5:=yQ g5 5 _ rfl;have f5:=frz_of (uK g5 (heap_allocE (a:=wr) rfl)) 5;have x1:w5.cell? ⟨X,1,none⟩=some bv:=(by have:=uK (((uX wr).alloc _).trans g5) HBX.out;simp[World.cell?,this]);have hs6:(w5.setCell ⟨wr.heap.size,5,none⟩ (.slice A5 yk.length c5')).heap.size=w5.heap.size:=b_38;have hge:=HGW.out.size;have hge5:=g5.size;rw[size_allocB] at hge5;clear o5 g5)|(at_builtin;refine wpList_append_lies _ rfl _ _ 33 rfl w.heap.size 53 i0 (.agg #[.int .i64 0,.int .i64 0,.int .i64 0,.string ⟨#[]⟩,.string ⟨#[]⟩,.slice none 0 0]) 6 80 Tryz.underlying33 hi0 hz0 hz1 hz2 rfl b_37 _ k _ b_39 ((own_later HROW.out ((((uX wr).alloc _).trans G5.out).setCell (Nat.le_refl _) _)).alloc _) ⟨w5.heap.size,0,none⟩ 1 1 [.int .i64 yi,.int .i64 yp,.int .i64 yl,.string yt,.string ym,.slice A5 yk.length c5'] b_39 rfl (fun j u hj=>(by rw[add_lit,Nat.zero_add,← hs6];exact yQ (uX _) j u hj)) (fun u hu=>(by simp at hu;rcases hu with rfl|rfl|rfl|rfl|rfl|rfl<;>rfl)) b_37 b_34 b_37 (by rw[size_allocB,hs6];omega) (w5.heap.size+1) b_38 ?_;intro g3 cap3 w3 hown3 hgr3 hat3 hlt3;have HFIN:=uZ (HSTEP.out w5 w3 _ (.slice (some ⟨g3,0,none⟩) (k+1) cap3) _ _ G5.out (World.ownsRow.mono O5.out (by exact Nat.le_refl _)) hgr3 hown3 (fun b hb=>(by simp[Value.ownBlock] at hb;subst hb;rw[hs6];exact hat3)));have hX3:=heap_kept (uK (((((uX wr).alloc _).trans G5.out).setCell (Nat.le_refl _) _).alloc _) HBX.out) hgr3 HBXn.out;have x3:w3.cell? ⟨X,1,none⟩=some bv:=(by simp[World.cell?,hX3]);have f3:=frz_of hX3 1;clear hown3 hgr3 hat3 hlt3 hX3))
   go_roundg (t.brs.length-(k+1))
   case measure=>omega
   case rel=>exact⟨k+1,_,_,by omega,by omega,by go_num,(show Aside _ from HFIN.out)⟩
  ·have hltz:¬ (k:Int)<(t.brs.length:Int):=by omega
   obtain rfl:k=t.brs.length:=by omega
   have x0:wr.cell? ⟨X,0,none⟩=some (.slice A1 t.roots.length c1):=by have:=HC.out.box;simp[World.cell?,this]
   have x1:wr.cell? ⟨X,1,none⟩=some bv:=by have:=HC.out.box;simp[World.cell?,this]
   have q0:wr.cell? ⟨w.heap.size+1,0,none⟩=some (.slice none 0 0):=by have:=HC.out.res;simp[World.cell?,this]
   have q1:wr.cell? ⟨w.heap.size+1,1,none⟩=some (.slice none 0 0):=by have:=HC.out.res;simp[World.cell?,this]
   have z0:=frz_of HC.out.res 0
   have z1:=frz_of HC.out.res 1
   obtain⟨A2,c2,rfl⟩:=own_slice HC.out.cop.brs
   go_wp2_with fail
   obtain⟨p0,p1⟩:=res_cells (v0:=(.slice A1 t.roots.length c1)) (v1:=(.slice A2 t.brs.length c2)) q0 q1
   refine bodyPost_ret (v:=.agg #[.slice A1 t.roots.length c1,.slice A2 t.brs.length c2]) (by simp[results,Tryz.results144,go_sem,p0,p1]) rfl ?_
   obtain⟨d1,d2,d3,d4⟩:=HC.out.done (x:=.slice A1 t.roots.length c1) (y:=.slice A2 t.brs.length c2)
   rw[List.take_length] at d2 d3
   exact⟨_,_,_,rfl,d1,d2,d3,d4⟩
end Go.Proofs.YtafncfomiolmgaaGreatDoor
namespace Go.Proofs.YtafncfomiolmgaaGreatDoor
open Go.RowKit
def mixL (f:Br→Br) (k:Nat) (l:List Br):List Br:=(l.take k).map f++l.drop k
section
variable (f:Br→Br) (l:List Br)
theorem mix_len (k:Nat):(mixL f k l).length=l.length:=by
 unfold mixL
 rw[List.length_append,List.length_map,List.length_take,List.length_drop]
 omega
theorem mix_zero:mixL f 0 l=l:=by simp[mixL]
theorem mix_all:mixL f l.length l=l.map f:=by simp[mixL]
theorem mix_get {k:Nat} (h:k<l.length):(mixL f k l)[k]? = some l[k]:=by
 unfold mixL
 rw[List.getElem?_append_right (by rw[List.length_map,List.length_take];omega),List.getElem?_drop,List.length_map,List.length_take]
 rw[show k+(k-min k l.length)=k by omega,List.getElem?_eq_getElem h]
theorem mix_at {k:Nat} (h:k<l.length) (h':k<(mixL f k l).length):(mixL f k l)[k]=l[k]:=by
 have h1:=mix_get f l h
 rw[List.getElem?_eq_getElem h'] at h1
 exact Option.some.inj h1
theorem mix_next {k:Nat} (h:k<l.length):(mixL f k l).set k (f l[k])=mixL f (k+1) l:=by
 unfold mixL
 have hd:l.drop k=l[k]::l.drop (k+1):=by rw[List.getElem_cons_drop]
 rw[hd,List.take_succ_eq_append_getElem h,List.map_append,List.set_append_right _ _ (by rw[List.length_map,List.length_take];omega)]
 have:k-((l.take k).map f).length=0:=by rw[List.length_map,List.length_take];omega
 rw[this,List.set_cons_zero]
 simp
theorem mix_same {k:Nat} (h:k<l.length) (hf:f l[k]=l[k]):mixL f (k+1) l=mixL f k l:=by
 rw[← mix_next f l h,hf]
 have h2:k<(mixL f k l).length:=by rw[mix_len];exact h
 conv=>lhs;rw[← mix_at f l h h2]
 exact List.set_getElem_self h2
end
def setG (t:Tr) (p:Int) (ks:List Int):Tr:=⟨if p=0 then ks else t.roots,t.brs.map (kidG p ks)⟩
theorem setG_eq {t:Tr} (h:∀ b∈t.brs,b.id≠0) (p:Int) (ks:List Int):setG t p ks=setK t p ks:=by
 unfold setG setK
 by_cases hp:p=0
 ·rw[if_pos hp,if_pos hp]
  have:t.brs.map (kidG p ks)=t.brs:=by
   conv=>rhs;rw[← List.map_id t.brs]
   refine List.map_congr_left fun b hb=>?_
   unfold kidG
   rw[if_neg (by rw[hp];exact h b hb)]
   rfl
  rw[this]
 ·rw[if_neg hp,if_neg hp]
  rfl
def TrLo (n:Nat) (W:World) (rv bv:Value) (t:Tr):Prop:=SlI W rv t.roots∧(∀ k,blk rv=some k→n≤k)∧(∀ k,bv.ownBlock=some k→n≤k)∧∃ cs:List BrC,SlB W bv cs∧cs.length=t.brs.length∧∀ i (h:i<cs.length) (h':i<t.brs.length),BrOk W cs[i] t.brs[i]∧∀ k,blk cs[i].kv=some k→n≤k
theorem TrLo.ok {n:Nat} {W:World} {rv bv:Value} {t:Tr} (h:TrLo n W rv bv t):TrOk W rv bv t:=by
 obtain⟨h1,-,-,cs,h2,h3,h4⟩:=h
 exact⟨h1,cs,h2,h3,fun i hi hi'=>(h4 i hi hi').1⟩
theorem TrLo.mono {n:Nat} {W W':World} {rv bv:Value} {t:Tr} (h:TrLo n W rv bv t) (g:Grew W W'):TrLo n W' rv bv t:=by
 obtain⟨h1,k1,k2,cs,h2,h3,h4⟩:=h
 exact⟨h1.mono g,k1,k2,cs,h2.mono g,h3,fun i hi hi'=>⟨⟨(h4 i hi hi').1.1,(h4 i hi hi').1.2.mono g⟩,(h4 i hi hi').2⟩⟩
theorem TrLo.set {n:Nat} {W:World} {rv bv:Value} {t:Tr} (h:TrLo n W rv bv t) (a:Addr) (u:Value) (ha:a.block<n):TrLo n (W.setCell a u) rv bv t:=by
 obtain⟨h1,k1,k2,cs,h2,h3,h4⟩:=h
 exact⟨rd_blk u h1 (fun e=>by have:=k1 _ e;omega),k1,k2,cs,rd_set u h2 (fun e=>by have:=k2 _ e;omega),h3,fun i hi hi'=>⟨⟨(h4 i hi hi').1.1,rd_blk u (h4 i hi hi').1.2 (fun e=>by have:=(h4 i hi hi').2 _ e;omega)⟩,(h4 i hi hi').2⟩⟩
structure CopAt (w:World) (n R X:Nat) (rv bv:Value) (cs:List BrC) (rs:List Int) (l:List Br) (wr:World):Prop where
 cop:CopB (fun x=>x≠X∧x≠R∧n≤x) w.heap.size wr bv cs l
 roots:SlI wr rv rs
 rOff:OffB (fun x=>x≠X∧x≠R∧n≤x) bv rv
 box:wr.heap[X]? = some (.cells #[rv,bv] 35 (0,0))
 res:wr.heap[R]? = some (.cells #[.slice none 0 0,.slice none 0 0] 35 (0,0))
 lo:w.heap.size≤R
 lt:R<X
 hn:n≤w.heap.size
 grew:Grew w wr
section
variable {w wr:World} {n R X:Nat} {rv bv:Value} {cs:List BrC} {rs:List Int} {l:List Br}
theorem CopAt.cells (h:CopAt w n R X rv bv cs rs l wr):wr.cell? ⟨X,0,none⟩=some rv∧wr.cell? ⟨X,1,none⟩=some bv∧wr.frozen? ⟨X,0,none⟩=false∧wr.frozen? ⟨X,1,none⟩=false:=by
 have:=h.box
 simp[World.cell?,World.frozen?,this]
theorem CopAt.resCells (h:CopAt w n R X rv bv cs rs l wr):wr.cell? ⟨R,0,none⟩=some (.slice none 0 0)∧wr.cell? ⟨R,1,none⟩=some (.slice none 0 0)∧wr.frozen? ⟨R,0,none⟩=false∧wr.frozen? ⟨R,1,none⟩=false:=by
 have:=h.res
 simp[World.cell?,World.frozen?,this]
theorem CopAt.start {t:Tr} {WA w1:World} (hn:n≤w.heap.size) (hG:Grew w WA) (hR:WA.heap[R]? = some (.cells #[.slice none 0 0,.slice none 0 0] 35 (0,0))) (hlo:w.heap.size≤R) (h1:SlI w1 rv t.roots) (h2:OffB (fun k=>WA.heap.size≤k) bv rv) (h3:CopB (fun k=>WA.heap.size≤k) WA.heap.size w1 bv cs t.brs) (h4:Grew WA w1):CopAt w n R w1.heap.size rv bv cs t.roots t.brs (w1.alloc (.cells #[rv,bv] 35)):=by
 have hRl:R<WA.heap.size:=(Array.getElem?_eq_some_iff.1 hR).1
 have hs:=h4.size
 exact {
  cop:=(h3.to hG.size (fun k hk hp=>⟨by omega,by omega,by omega⟩)).grew ((uX _).alloc _)
  roots:=h1.mono ((uX _).alloc _)
  rOff:=fun k hk=>⟨(h2 k hk).1,by have:=slI_blk h1 hk;omega,by have:=(h2 k hk).2;omega,by have:=(h2 k hk).2;omega⟩
  box:=heap_allocE rfl
  res:=uK (h4.alloc _) hR
  lo:=hlo
  lt:=by omega
  hn:=hn
  grew:=(hG.trans h4).alloc _ }
theorem CopAt.start2 {t:Tr} {WA w1:World} {kv:Value} {ks:List Int} (hn:n≤w.heap.size) (hkn:∀ k,blk kv=some k→n≤k) (hG:Grew w WA) (hR:WA.heap[R]? = some (.cells #[.slice none 0 0,.slice none 0 0] 35 (0,0))) (hlo:w.heap.size≤R) (hk:SlI w kv ks) (h3:CopB (fun k=>WA.heap.size≤k) WA.heap.size w1 bv cs t.brs) (h4:Grew WA w1):CopAt w n R w1.heap.size kv bv cs ks t.brs (w1.alloc (.cells #[kv,bv] 35)):=by
 have hRl:R<WA.heap.size:=(Array.getElem?_eq_some_iff.1 hR).1
 have hs:=h4.size
 have hs0:=hG.size
 exact {
  cop:=(h3.to hG.size (fun k hk hp=>⟨by omega,by omega,by omega⟩)).grew ((uX _).alloc _)
  roots:=SlI.mono hk ((hG.trans h4).alloc _)
  rOff:=fun k hk2=>by
   have h1:=slI_blk hk hk2
   exact⟨fun e=>by have h2:=(h3.brs.lt k e).1;omega,by omega,by omega,hkn k hk2⟩
  box:=heap_allocE rfl
  res:=uK (h4.alloc _) hR
  lo:=hlo
  lt:=by omega
  hn:=hn
  grew:=(hG.trans h4).alloc _ }
theorem CopAt.poke (h:CopAt w n R X rv bv cs rs l wr) {i j:Nat} (hi':i<l.length) (hj:j<6) {b':Br} {v' u:Value} (hc:∀ kv,cs[i]? = some (l[i].c kv)→(b'.c v').cells=(l[i].c kv).cells.set j u) (hk:SlI wr v' b'.kids) (ho:OffB (fun x=>x≠X∧x≠R∧n≤x) bv v') {B cap:Nat} (hbv:bv=.slice (some ⟨B,0,none⟩) l.length cap) :
  CopAt w n R X rv bv (cs.set i (b'.c v')) rs (l.set i b') (wr.setCell ⟨B,i*6+j,none⟩ u):=by
 have hi:i<cs.length:=by rw[h.cop.len];exact hi'
 have e1:=(h.cop.each i hi hi').1.1
 have hBX:bv.ownBlock≠some X:=own_ne h.cop.brs h.box ne_BT
 have hBR:bv.ownBlock≠some R:=own_ne h.cop.brs h.res ne_BT
 have hXB:X≠B:=fun e=>hBX (by rw[hbv,e];rfl)
 have hRB:R≠B:=fun e=>hBR (by rw[hbv,e];rfl)
 have hB:w.heap.size≤B:=(h.cop.brs.lt B (by rw[hbv];rfl)).1
 refine⟨h.cop.poke hi hi' hj ?_ rfl hk ho hbv,rd_blk _ h.roots (fun e=>(h.rOff _ e).1 (by rw[hbv];rfl)),h.rOff,heap_set _ _ h.box hXB,heap_set _ _ h.res hRB,h.lo,h.lt,h.hn,h.grew.setCell hB _⟩
 rw[hc cs[i].kv (by rw[List.getElem?_eq_getElem hi,← e1]),← e1]
theorem CopAt.old (h:CopAt w n R X rv bv cs rs l wr) {kv:Value} {ks:List Int} (hk:SlI w kv ks) (hkn:∀ k,blk kv=some k→n≤k):OffB (fun x=>x≠X∧x≠R∧n≤x) bv kv:=fun k hk2=>by
 have h1:=slI_blk hk hk2
 have hlo:=h.lo
 have hlt:=h.lt
 exact⟨fun e=>by have h2:=(h.cop.brs.lt k e).1;omega,by omega,by omega,hkn k hk2⟩
theorem CopAt.done (h:CopAt w n R X rv bv cs rs l wr) (x y:Value):TrLo n ((wr.setCell ⟨R,0,none⟩ x).setCell ⟨R,1,none⟩ y) rv bv ⟨rs,l⟩∧Grew w ((wr.setCell ⟨R,0,none⟩ x).setCell ⟨R,1,none⟩ y):=by
 have hne:=own_ne h.cop.brs h.res ne_BT
 have c1:=h.cop.aside ⟨R,0,none⟩ x hne (fun hp=>hp.2.1 rfl)
 have c2:=c1.aside ⟨R,1,none⟩ y hne (fun hp=>hp.2.1 rfl)
 have hn:=h.hn
 exact⟨⟨rd_blk _ (rd_blk _ h.roots (fun e=>(h.rOff _ e).2.2.1 rfl)) (fun e=>(h.rOff _ e).2.2.1 rfl),fun k hk=>(h.rOff k hk).2.2.2,fun k hk=>by have:=(c2.brs.lt k hk).1;omega,cs,Rd.of_own c2.brs,c2.len,fun i k1 k2=>⟨(c2.each i k1 k2).1,fun k hk=>((c2.each i k1 k2).2 k hk).2.2.2⟩⟩,(h.grew.setCell h.lo _).setCell h.lo _⟩
end
def RetLo (n:Nat) (t:Tr) (w:World) (e:Ending) (w':World):Prop:=∃ rv bv,e=.returned (.agg #[rv,bv])∧TrLo n w' rv bv t∧Grew w w'
theorem RetLo.ok {n:Nat} {t:Tr} {w w':World} {e:Ending} (h:RetLo n t w e w'):RetT t w e w':=by
 obtain⟨rv,bv,h1,h2,h3⟩:=h
 exact⟨rv,bv,h1,h2.ok,h3⟩
end Go.Proofs.YtafncfomiolmgaaGreatDoor
namespace Go.Proofs.YtafncfomiolmgaaGreatDoor
open Go.RowKit
set_option maxRecDepth 100000 in
theorem c_30 {p:Prop} (h:p:=by
 have h0z:(0:Int)≤(k:Int):=by omega
 have hlm:k<(mixL (kidG p ks) k t.brs).length:=by rw[mix_len];exact hlt
 obtain⟨B,cap,kv,e,hlo,hBs,hkv,-,hfz,c0,-,-,-,-,c5⟩:=HC.out.cop.cells hlm
 rw[mix_len] at e
 injection e with e1 _ e2
 subst e1 e2
 rw[mix_at _ _ hlt hlm] at c0
 obtain⟨Akv,nkv,ckv,ekv⟩:=(show ∃ A n c,kv=.slice A n c by obtain⟨A,c,e,-⟩:=SlI.open_ hkv;exact⟨A,_,c,e⟩)
 subst ekv
 have f5:=hfz (k*6+5)
 have HSET:=uZ (fun hp=>HC.out.setAt HKV.out HKN.out hlt hp rfl)
 have HSAME:=uZ (show ¬ t.brs[k].id=p→mixL (kidG p ks) (k+1) t.brs=mixL (kidG p ks) k t.brs from fun h=>mix_same _ _ hlt (by unfold kidG;rw[if_neg h]))
 clear hkv hfz hlm hlo
 generalize t.brs[k]=y at c0 HSET HSAME
 obtain⟨yi,yp,yl,yt,ym,yk⟩:=y
 dsimp only at c0 HSET HSAME
 by_cases hid:yi=p
 ·have hb1:(yi == p)=true:=by simpa using hid
  obtain⟨cs',hcs⟩:=HSET.out hid
  have HN:=uZ hcs
  clear hcs HSET HSAME hid HC
  go_wp2_with fail
  go_roundg (t.brs.length-(k+1))
  case measure=>omega
  case rel=>exact⟨k+1,_,by omega,by omega,by go_num,(show Aside _ from HN.out)⟩
 ·have hb1:(yi == p)=false:=by simpa using hid
  have hsm:=HSAME.out hid
  have HN:=uZ (hsm▸HC.out)
  clear hsm HSET HSAME hid HC
  go_wp2_with fail
  go_roundg (t.brs.length-(k+1))
  case measure=>omega
  case rel=>exact⟨k+1,_,by omega,by omega,by go_num,(show Aside _ from HN.out)⟩):p:=h
theorem CopAt.setAt {w wr:World} {n R X:Nat} {rv bv:Value} {cs:List BrC} {rs:List Int} {l:List Br} {k:Nat} {p:Int} {ks:List Int} {kv:Value} (h:CopAt w n R X rv bv cs rs (mixL (kidG p ks) k l) wr) (hk:SlI w kv ks) (hkn:∀ k,blk kv=some k→n≤k) (hkl:k<l.length) (hp:l[k].id=p) {B cap:Nat} (hbv:bv=.slice (some ⟨B,0,none⟩) l.length cap) :
  ∃ cs',CopAt w n R X rv bv cs' rs (mixL (kidG p ks) (k+1) l) (wr.setCell ⟨B,k*6+5,none⟩ kv):=by
 have hlm:k<(mixL (kidG p ks) k l).length:=by rw[mix_len];exact hkl
 have e:=mix_at (kidG p ks) l hkl hlm
 have h1:=h.poke (i:=k) (j:=5) (b':={ l[k] with kids:=ks }) (v':=kv) (u:=kv) hlm b_37 (fun v _=>by rw[e];rfl) (SlI.mono hk h.grew) (h.old hk hkn) (by rw[mix_len];exact hbv)
 rw[show({ l[k] with kids:=ks }:Br)=kidG p ks l[k] by unfold kidG;rw[if_pos hp],mix_next _ l hkl] at h1
 exact⟨_,h1⟩
set_option maxHeartbeats 8000000 in
set_option maxRecDepth 100000 in
theorem ref21SetN (n:Nat) (t:Tr) (p:Int) (ks:List Int) (rv bv kv:Value) (w:World) (hr:SlI w rv t.roots) (hv:SlBr w bv t.brs) (hf:FewBr t.brs) (hrl:t.roots.length≤1000000) (hk:SlI w kv ks) (hn:n≤w.heap.size) (hkn:∀ k,blk kv=some k→n≤k) :
  Calls Tryz.prog 101 #[.agg #[rv,bv],.int .i64 p,kv] w (RetLo n (setG t p ks) w):=by
 have KC:=uZ (fun W (hW:Grew w W)=>ref21Clone t rv bv W (hr.mono hW) (hv.mono hW) hf hrl)
 have HKV:=uZ hk
 have HKN:=uZ hkn
 have HNW:=uZ hn
 have hfl:=hf.1
 obtain⟨Ar,cr,rfl,-⟩:=SlI.open_ hr
 obtain⟨Ab,cb,rfl,-⟩:=SlBr.open_ hv
 obtain⟨Ak,ck,rfl,-⟩:=SlI.open_ hk
 clear hr hv hf hrl hk hkn hn
 have GA:=uZ (((uX w).alloc (.cells #[.slice Ar t.roots.length cr,.slice Ab t.brs.length cb] 35)).alloc (.cells #[.slice none 0 0,.slice none 0 0] 35))
 have hRA:=heap_allocE (a:=w.alloc (.cells #[.slice Ar t.roots.length cr,.slice Ab t.brs.length cb] 35)) (X:=w.heap.size+1) (p:=.cells #[.slice none 0 0,.slice none 0 0] 35) b_38
 go_enter Tryz.func101,Tryz.ntmps101
 go_wp2_with fail
 generalize (w.alloc (.cells #[.slice Ar t.roots.length cr,.slice Ab t.brs.length cb] 35)).alloc (.cells #[.slice none 0 0,.slice none 0 0] 35)=WA at hRA GA ⊢
 have HRA:=uZ hRA
 clear hRA
 refine(KC.out _ GA.out).mono ?_
 rintro e w1 ⟨r1,b1,cs,rfl,h1,h2,h3,h4⟩
 have HB3:=uZ h3
 have HB4:=uZ h4
 have HB1:=uZ h1
 have HB2:=uZ h2
 obtain⟨A1,c1,rfl,-⟩:=SlI.open_ h1
 obtain⟨A2,c2,rfl⟩:=own_slice h3.brs
 clear h1 h2 h3 h4 KC
 dsimp only
 by_cases hp:p=0
 ·have hpb:(p == 0)=true:=by simpa using hp
  have hst:=CopAt.start2 HNW.out HKN.out GA.out HRA.out b_37 HKV.out HB3.out HB4.out
  have HST:=uZ (show CopAt w n (w.heap.size+1) w1.heap.size (.slice Ak ks.length ck) (.slice A2 t.brs.length c2) cs ks (mixL (kidG p ks) 0 t.brs) (w1.alloc (.cells #[.slice Ak ks.length ck,.slice A2 t.brs.length c2] 35)) by rw[mix_zero];exact hst)
  have HP:=uZ hp
  clear hp hst HRA GA HB1 HB2 HB3 HB4
  go_wp2_with fail
  generalize w1.heap.size=X at HST ⊢
  generalize w1.alloc (.cells #[.slice Ak ks.length ck,.slice A2 t.brs.length c2] 35)=WL at HST ⊢
  go_loopg [8] t.brs.length (fun gg s8 wr=>∃(k:Nat) (cs:List BrC),k≤t.brs.length∧t.brs.length-k≤gg∧s8=.int .i64 k∧Aside (CopAt w n (w.heap.size+1) X (.slice Ak ks.length ck) (.slice A2 t.brs.length c2) cs ks (mixL (kidG p ks) k t.brs) wr))
  case atStart=>exact⟨0,_,by omega,by omega,rfl,(show Aside _ from HST.out)⟩
  case round =>
   clear HST
   obtain⟨k,cs,hkl,hgk,rfl,HC⟩:=hrel
   obtain⟨x0,x1,-,-⟩:=HC.out.cells
   by_cases hlt:k<t.brs.length
   ·have hltz:(k:Int)<(t.brs.length:Int):=by omega
    exact c_30
   ·have hltz:¬ (k:Int)<(t.brs.length:Int):=by omega
    obtain rfl:k=t.brs.length:=by omega
    obtain⟨q0,q1,z0,z1⟩:=HC.out.resCells
    have hd:=HC.out.done (.slice Ak ks.length ck) (.slice A2 t.brs.length c2)
    rw[mix_all] at hd
    have HD:=uZ hd
    clear hd HC
    go_wp2_with fail
    obtain⟨p0,p1⟩:=res_cells (v0:=.slice Ak ks.length ck) (v1:=(.slice A2 t.brs.length c2)) q0 q1
    refine bodyPost_ret (v:=.agg #[.slice Ak ks.length ck,.slice A2 t.brs.length c2]) (by simp[results,Tryz.results101,go_sem,p0,p1]) rfl ?_
    refine⟨_,_,rfl,?_,HD.out.2⟩
    have h:=HD.out.1
    unfold setG
    rw[if_pos HP.out]
    exact h
 ·have hpb:(p == 0)=false:=by simpa using hp
  have hst:=CopAt.start HNW.out GA.out HRA.out b_37 HB1.out HB2.out HB3.out HB4.out
  have HST:=uZ (show CopAt w n (w.heap.size+1) w1.heap.size (.slice A1 t.roots.length c1) (.slice A2 t.brs.length c2) cs t.roots (mixL (kidG p ks) 0 t.brs) (w1.alloc (.cells #[.slice A1 t.roots.length c1,.slice A2 t.brs.length c2] 35)) by rw[mix_zero];exact hst)
  have HP:=uZ hp
  clear hp hst HRA GA HB1 HB2 HB3 HB4
  go_wp2_with fail
  generalize w1.heap.size=X at HST ⊢
  generalize w1.alloc (.cells #[.slice A1 t.roots.length c1,.slice A2 t.brs.length c2] 35)=WL at HST ⊢
  go_loopg [8] t.brs.length (fun gg s8 wr=>∃(k:Nat) (cs:List BrC),k≤t.brs.length∧t.brs.length-k≤gg∧s8=.int .i64 k∧Aside (CopAt w n (w.heap.size+1) X (.slice A1 t.roots.length c1) (.slice A2 t.brs.length c2) cs t.roots (mixL (kidG p ks) k t.brs) wr))
  case atStart=>exact⟨0,_,by omega,by omega,rfl,(show Aside _ from HST.out)⟩
  case round =>
   clear HST
   obtain⟨k,cs,hkl,hgk,rfl,HC⟩:=hrel
   obtain⟨x0,x1,-,-⟩:=HC.out.cells
   by_cases hlt:k<t.brs.length
   ·have hltz:(k:Int)<(t.brs.length:Int):=by omega
    exact c_30
   ·have hltz:¬ (k:Int)<(t.brs.length:Int):=by omega
    obtain rfl:k=t.brs.length:=by omega
    obtain⟨q0,q1,z0,z1⟩:=HC.out.resCells
    have hd:=HC.out.done (.slice A1 t.roots.length c1) (.slice A2 t.brs.length c2)
    rw[mix_all] at hd
    have HD:=uZ hd
    clear hd HC
    go_wp2_with fail
    obtain⟨p0,p1⟩:=res_cells (v0:=.slice A1 t.roots.length c1) (v1:=(.slice A2 t.brs.length c2)) q0 q1
    refine bodyPost_ret (v:=.agg #[.slice A1 t.roots.length c1,.slice A2 t.brs.length c2]) (by simp[results,Tryz.results101,go_sem,p0,p1]) rfl ?_
    refine⟨_,_,rfl,?_,HD.out.2⟩
    have h:=HD.out.1
    unfold setG
    rw[if_neg HP.out]
    exact h
theorem ref21Set (t:Tr) (p:Int) (ks:List Int) (rv bv kv:Value) (w:World) (hr:SlI w rv t.roots) (hv:SlBr w bv t.brs) (hf:FewBr t.brs) (hrl:t.roots.length≤1000000) (hk:SlI w kv ks) :
  Calls Tryz.prog 101 #[.agg #[rv,bv],.int .i64 p,kv] w (RetT (setG t p ks) w):=(ref21SetN 0 t p ks rv bv kv w hr hv hf hrl hk (Nat.zero_le _) (fun _ _=>Nat.zero_le _)).mono fun _ _ h=>h.ok
end Go.Proofs.YtafncfomiolmgaaGreatDoor
namespace Go.Proofs.YtafncfomiolmgaaGreatDoor
open Go.RowKit
def putU (u b:Br):Br:=if b.id=u.id then { u with kids:=b.kids } else b
def chG (t:Tr) (u:Br):Tr:=⟨t.roots,t.brs.map (putU u)⟩
theorem CopAt.field {w wr:World} {n R X:Nat} {rv bv:Value} {cs:List BrC} {rs:List Int} {l:List Br} (h:CopAt w n R X rv bv cs rs l wr) {i j:Nat} {b b':Br} {kv u:Value} (hb:l[i]? = some b) (hc0:cs[i]? = some (b.c kv)) (hj:j<6) (hc:(b'.c kv).cells=(b.c kv).cells.set j u) (hk:b'.kids=b.kids) {B nn cap:Nat} (hbv:bv=.slice (some ⟨B,0,none⟩) nn cap) (hn:nn=l.length) :
  CopAt w n R X rv bv (cs.set i (b'.c kv)) rs (l.set i b') (wr.setCell ⟨B,i*6+j,none⟩ u)∧(l.set i b')[i]? = some b'∧(cs.set i (b'.c kv))[i]? = some (b'.c kv):=by
 obtain⟨hi,e1⟩:=List.getElem?_eq_some_iff.1 hb
 obtain⟨hi2,e2⟩:=List.getElem?_eq_some_iff.1 hc0
 obtain⟨h1,h2⟩:=h.cop.each i hi2 hi
 have hk2:=h1.2
 have hkv:cs[i].kv=kv:=by rw[e2];rfl
 rw[hkv] at hk2 h2
 rw[e1] at hk2
 refine⟨h.poke hi hj (fun v hv=>?_) (by rw[hk];exact hk2) h2 (by rw[hbv,hn]),by simp[hi],by simp[hi2]⟩
 rw[e1] at hv ⊢
 rw[hc0] at hv
 injection hv with hv
 rw[hc,hv]
theorem CopAt.unitAt {w wr:World} {n R X:Nat} {rv bv:Value} {cs:List BrC} {rs:List Int} {l:List Br} {k:Nat} {u:Br} (h:CopAt w n R X rv bv cs rs (mixL (putU u) k l) wr) (hkl:k<l.length) (hp:l[k].id=u.id) {B cap:Nat} (hbv:bv=.slice (some ⟨B,0,none⟩) l.length cap) :
  ∃ cs',CopAt w n R X rv bv cs' rs (mixL (putU u) (k+1) l) (((((wr.setCell ⟨B,k*6,none⟩ (.int .i64 u.id)).setCell ⟨B,k*6+1,none⟩ (.int .i64 u.parent)).setCell ⟨B,k*6+2,none⟩ (.int .i64 u.level)).setCell ⟨B,k*6+3,none⟩ (.string u.title)).setCell ⟨B,k*6+4,none⟩ (.string u.mark)):=by
 have hlm:k<(mixL (putU u) k l).length:=by rw[mix_len];exact hkl
 have hcl:k<cs.length:=by rw[h.cop.len];exact hlm
 have l0:=mix_get (putU u) l hkl
 have c0:cs[k]? = some (l[k].c cs[k].kv):=by
  rw[List.getElem?_eq_getElem hcl]
  have:=(h.cop.each k hcl hlm).1.1
  rw[mix_at _ _ hkl hlm] at this
  exact congrArg some this
 have hnx:(mixL (putU u) k l).set k { u with kids:=l[k].kids }=mixL (putU u) (k+1) l:=by
  rw[← mix_next (putU u) l hkl]
  congr 1
  unfold putU
  rw[if_pos hp]
 rw[← hnx]
 have h0:=h
 clear h hnx hlm
 generalize cs[k].kv=kv at c0
 generalize l[k]=b at l0 c0 hp ⊢
 have hLn:l.length=(mixL (putU u) k l).length:=(mix_len _ _ _).symm
 generalize mixL (putU u) k l=L at l0 h0 hLn ⊢
 obtain⟨h1,l1,c1⟩:=CopAt.field (h:=h0) (j:=0) (b':={ b with id:=u.id }) (u:=.int .i64 u.id) l0 c0 b_37 rfl rfl hbv (by simp[hLn])
 obtain⟨h2,l2,c2⟩:=CopAt.field (h:=h1) (j:=1) (b':={ b with id:=u.id,parent:=u.parent }) (u:=.int .i64 u.parent) l1 c1 b_37 rfl rfl hbv (by simp[hLn])
 obtain⟨h3,l3,c3⟩:=CopAt.field (h:=h2) (j:=2) (b':={ b with id:=u.id,parent:=u.parent,level:=u.level }) (u:=.int .i64 u.level) l2 c2 b_37 rfl rfl hbv (by simp[hLn])
 obtain⟨h4,l4,c4⟩:=CopAt.field (h:=h3) (j:=3) (b':={ b with id:=u.id,parent:=u.parent,level:=u.level,title:=u.title }) (u:=.string u.title) l3 c3 b_37 rfl rfl hbv (by simp[hLn])
 obtain⟨h5,l5,c5⟩:=CopAt.field (h:=h4) (j:=4) (b':={ b with id:=u.id,parent:=u.parent,level:=u.level,title:=u.title,mark:=u.mark }) (u:=.string u.mark) l4 c4 b_37 rfl rfl hbv (by simp[hLn])
 simp only [List.set_set,Nat.add_zero] at h5
 exact⟨_,h5⟩
theorem CopAt.later {w wr W:World} {n R X:Nat} {rv bv:Value} {cs:List BrC} {rs:List Int} {l:List Br} (h:CopAt w n R X rv bv cs rs l wr) (g:Grew wr W):CopAt w n R X rv bv cs rs l W :=
 ⟨h.cop.grew g,h.roots.mono g,h.rOff,uK g h.box,uK g h.res,h.lo,h.lt,h.hn,h.grew.trans g⟩
theorem ne_BU:(53:Nat)≠51:=by decide
theorem unit_cells {W:World} {Y:Nat} {ui up ul:Int} {ut um:ByteArray} (h:W.heap[Y]? = some (.cells #[.int .i64 ui,.int .i64 up,.int .i64 ul,.string ut,.string um] 51 (0,0))):W.cell? ⟨Y,0,none⟩=some (.int .i64 ui)∧W.cell? ⟨Y,1,none⟩=some (.int .i64 up)∧W.cell? ⟨Y,2,none⟩=some (.int .i64 ul)∧W.cell? ⟨Y,3,none⟩=some (.string ut)∧W.cell? ⟨Y,4,none⟩=some (.string um):=by
 simp[World.cell?,h]
theorem heap_set5 {W:World} {Y B i0 i1 i2 i3 i4:Nat} {v0 v1 v2 v3 v4:Value} {o:Obj} (h:W.heap[Y]? = some o) (hne:Y≠B):(((((W.setCell ⟨B,i0,none⟩ v0).setCell ⟨B,i1,none⟩ v1).setCell ⟨B,i2,none⟩ v2).setCell ⟨B,i3,none⟩ v3).setCell ⟨B,i4,none⟩ v4).heap[Y]? = some o :=
 heap_set _ _ (heap_set _ _ (heap_set _ _ (heap_set _ _ (heap_set _ _ h hne) hne) hne) hne) hne
set_option maxHeartbeats 8000000 in
set_option maxRecDepth 100000 in
theorem ref21Change (t:Tr) (ui up ul:Int) (ut um:ByteArray) (rv bv:Value) (w:World) (hr:SlI w rv t.roots) (hv:SlBr w bv t.brs) (hf:FewBr t.brs) (hrl:t.roots.length≤1000000) :
  Calls Tryz.prog 105 #[.agg #[rv,bv],.agg #[.int .i64 ui,.int .i64 up,.int .i64 ul,.string ut,.string um]] w (RetT (chG t ⟨ui,up,ul,ut,um,[]⟩) w):=by
 have KC:=uZ (fun W (hW:Grew w W)=>ref21Clone t rv bv W (hr.mono hW) (hv.mono hW) hf hrl)
 have hfl:=hf.1
 obtain⟨Ar,cr,rfl,-⟩:=SlI.open_ hr
 obtain⟨Ab,cb,rfl,-⟩:=SlBr.open_ hv
 clear hr hv hf hrl
 have GA:=uZ ((((uX w).alloc (.cells #[.slice Ar t.roots.length cr,.slice Ab t.brs.length cb] 35)).alloc (.cells #[.int .i64 ui,.int .i64 up,.int .i64 ul,.string ut,.string um] 51)).alloc (.cells #[.slice none 0 0,.slice none 0 0] 35))
 have hRA:=heap_allocE (a:=(w.alloc (.cells #[.slice Ar t.roots.length cr,.slice Ab t.brs.length cb] 35)).alloc (.cells #[.int .i64 ui,.int .i64 up,.int .i64 ul,.string ut,.string um] 51)) (X:=w.heap.size+1+1) (p:=(.cells #[.slice none 0 0,.slice none 0 0] 35)) b_38
 have hUA:=uK ((uX ((w.alloc (.cells #[.slice Ar t.roots.length cr,.slice Ab t.brs.length cb] 35)).alloc (.cells #[.int .i64 ui,.int .i64 up,.int .i64 ul,.string ut,.string um] 51))).alloc (.cells #[.slice none 0 0,.slice none 0 0] 35)) (heap_allocE (a:=w.alloc (.cells #[.slice Ar t.roots.length cr,.slice Ab t.brs.length cb] 35)) (X:=w.heap.size+1) (p:=(.cells #[.int .i64 ui,.int .i64 up,.int .i64 ul,.string ut,.string um] 51)) b_38)
 have HU:=uZ hUA
 clear hUA
 go_enter Tryz.func105,Tryz.ntmps105
 go_wp2_with fail
 generalize ((w.alloc (.cells #[.slice Ar t.roots.length cr,.slice Ab t.brs.length cb] 35)).alloc (.cells #[.int .i64 ui,.int .i64 up,.int .i64 ul,.string ut,.string um] 51)).alloc (.cells #[.slice none 0 0,.slice none 0 0] 35)=WA at hRA GA HU ⊢
 have HRA:=uZ hRA
 clear hRA
 refine(KC.out _ GA.out).mono ?_
 rintro e w1 ⟨r1,b1,cs,rfl,h1,h2,h3,h4⟩
 have HB3:=uZ h3
 have HB4:=uZ h4
 have HB1:=uZ h1
 have HB2:=uZ h2
 obtain⟨A1,c1,rfl,-⟩:=SlI.open_ h1
 obtain⟨A2,c2,rfl⟩:=own_slice h3.brs
 clear h1 h2 h3 h4 KC
 dsimp only
 have hst:=CopAt.start (Nat.zero_le _) GA.out HRA.out b_37 HB1.out HB2.out HB3.out HB4.out
 have HST:=uZ (show CopAt w 0 (w.heap.size+1+1) w1.heap.size (.slice A1 t.roots.length c1) (.slice A2 t.brs.length c2) cs t.roots (mixL (putU ⟨ui,up,ul,ut,um,[]⟩) 0 t.brs) (w1.alloc (.cells #[.slice A1 t.roots.length c1,.slice A2 t.brs.length c2] 35)) by rw[mix_zero];exact hst)
 have HUB:=uZ (uK (HB4.out.alloc (.cells #[.slice A1 t.roots.length c1,.slice A2 t.brs.length c2] 35)) HU.out)
 clear hst HRA GA HB1 HB2 HB3 HB4
 go_wp2_with fail
 generalize w1.heap.size=X at HST ⊢
 generalize w1.alloc (.cells #[.slice A1 t.roots.length c1,.slice A2 t.brs.length c2] 35)=WL at HST HUB ⊢
 go_loopg [6] t.brs.length (fun gg s6 wr=>∃(k:Nat) (cs:List BrC),k≤t.brs.length∧t.brs.length-k≤gg∧s6=.int .i64 k∧Aside (CopAt w 0 (w.heap.size+1+1) X (.slice A1 t.roots.length c1) (.slice A2 t.brs.length c2) cs t.roots (mixL (putU ⟨ui,up,ul,ut,um,[]⟩) k t.brs) wr)∧Aside (wr.heap[w.heap.size+1]? = some (.cells #[.int .i64 ui,.int .i64 up,.int .i64 ul,.string ut,.string um] 51 (0,0))))
 case atStart=>exact⟨0,_,by omega,by omega,rfl,(show Aside _ from HST.out),(show Aside _ from HUB.out)⟩
 case round =>
  clear HST
  obtain⟨k,cs,hkl,hgk,rfl,HC,GWR⟩:=hrel
  obtain⟨x0,x1,-,-⟩:=HC.out.cells
  by_cases hlt:k<t.brs.length
  ·have hltz:(k:Int)<(t.brs.length:Int):=by omega
   have h0z:(0:Int)≤(k:Int):=by omega
   have hlm:k<(mixL (putU ⟨ui,up,ul,ut,um,[]⟩) k t.brs).length:=by rw[mix_len];exact hlt
   obtain⟨B,cap,kv,e,hlo,hBs,hkv,-,hfz,c0,c1',c2',c3,c4,-⟩:=HC.out.cop.cells hlm
   rw[mix_len] at e
   injection e with e1 _ e2
   subst e1 e2
   rw[mix_at _ _ hlt hlm] at c0 c1' c2' c3 c4
   have f0:=hfz (k*6)
   have f1:=hfz (k*6+1)
   have f2:=hfz (k*6+2)
   have f3:=hfz (k*6+3)
   have f4:=hfz (k*6+4)
   have HUC:=uZ GWR.out
   obtain⟨u0,u1,u2,u3,u4⟩:=unit_cells GWR.out
   have hUB:w.heap.size+1≠B:=fun e=>own_ne HC.out.cop.brs GWR.out ne_BU (by rw[e];rfl)
   have HUN:=uZ hUB
   have HSET:=uZ (fun W (hg:Grew wr W) hp=>(HC.out.later hg).unitAt hlt hp rfl)
   have HSAME:=uZ (show ¬ t.brs[k].id=ui→mixL (putU ⟨ui,up,ul,ut,um,[]⟩) (k+1) t.brs=mixL (putU ⟨ui,up,ul,ut,um,[]⟩) k t.brs from fun h=>mix_same _ _ hlt (by unfold putU;rw[if_neg h]))
   clear hkv hfz hlm hlo
   generalize t.brs[k]=y at c0 c1' c2' c3 c4 HSET HSAME
   obtain⟨yi,yp,yl,yt,ym,yk⟩:=y
   dsimp only at c0 c1' c2' c3 c4 HSET HSAME
   by_cases hid:yi=ui
   ·have hb1:(yi == ui)=true:=by simpa using hid
    go_wp2_with fail
    go_quiet (fail)
    obtain⟨cs',hcs⟩:=HSET.out (wr.drewN nq) ((uX _).drewN _) hid
    have HN:=uZ hcs
    clear hcs HSET HSAME hid HC
    go_wp2_with fail
    go_roundg (t.brs.length-(k+1))
    case measure=>omega
    case rel=>exact⟨k+1,_,by omega,by omega,by go_num,(show Aside _ from HN.out),(show Aside _ from heap_set5 (uK ((uX wr).drewN nq) HUC.out) HUN.out)⟩
   ·have hb1:(yi == ui)=false:=by simpa using hid
    have hsm:=HSAME.out hid
    have HN:=uZ (hsm▸HC.out)
    clear hsm HSET HSAME hid HC
    go_wp2_with fail
    go_quiet (fail)
    go_wp2_with fail
    go_roundg (t.brs.length-(k+1))
    case measure=>omega
    case rel=>exact⟨k+1,_,by omega,by omega,by go_num,(show Aside _ from HN.out.later ((uX _).drewN _)),(show Aside _ from uK ((uX wr).drewN nq) HUC.out)⟩
  ·have hltz:¬ (k:Int)<(t.brs.length:Int):=by omega
   obtain rfl:k=t.brs.length:=by omega
   obtain⟨q0,q1,z0,z1⟩:=HC.out.resCells
   have hd:=HC.out.done (.slice A1 t.roots.length c1) (.slice A2 t.brs.length c2)
   rw[mix_all] at hd
   have HD:=uZ hd
   clear hd HC
   go_wp2_with fail
   obtain⟨p0,p1⟩:=res_cells (v0:=.slice A1 t.roots.length c1) (v1:=(.slice A2 t.brs.length c2)) q0 q1
   refine bodyPost_ret (v:=.agg #[.slice A1 t.roots.length c1,.slice A2 t.brs.length c2]) (by simp[results,Tryz.results105,go_sem,p0,p1]) rfl ?_
   refine⟨_,_,rfl,?_,HD.out.2⟩
   have h:=HD.out.1
   exact h.ok
end Go.Proofs.YtafncfomiolmgaaGreatDoor
namespace Go.Proofs.YtafncfomiolmgaaGreatDoor
open Go.RowKit
theorem ref_cells {w W:World} {r b:Value} (o:Opn) (g:Grew (((w.alloc (.cells [r,b].toArray 35)).alloc (.cells o.cells.toArray 25)).alloc (.cells [.slice none 0 0,.slice none 0 0].toArray 35)) W):(W.cell? ⟨w.heap.size,0,none⟩=some (r)∧W.cell? ⟨w.heap.size,1,none⟩=some (b)∧W.cell? ⟨w.heap.size+1,0,none⟩=some (.int .i64 o.id)∧W.cell? ⟨w.heap.size+1,1,none⟩=some (.int .i64 o.day)∧W.cell? ⟨w.heap.size+1,2,none⟩=some (.int .i64 o.kind)∧W.cell? ⟨w.heap.size+1,3,none⟩=some (.int .i64 o.unit)∧W.cell? ⟨w.heap.size+1,4,none⟩=some (.int .i64 o.parent)∧W.cell? ⟨w.heap.size+1,5,none⟩=some (.int .i64 o.before)∧W.cell? ⟨w.heap.size+1,6,none⟩=some (.int .i64 o.level)∧W.cell? ⟨w.heap.size+1,7,none⟩=some (.string o.title)∧W.cell? ⟨w.heap.size+1,8,none⟩=some (.string o.mark)∧W.cell? ⟨w.heap.size+1,9,none⟩=some (.int .i64 o.office)∧W.cell? ⟨w.heap.size+1,10,none⟩=some (.int .i64 o.acc)∧W.cell? ⟨w.heap.size+1,11,none⟩=some (.int .i64 o.num))∧W.heap[w.heap.size+1+1]? = some (.cells #[.slice none 0 0,.slice none 0 0] 35 (0,0)):=by
 have g2:Grew ((w.alloc (.cells [r,b].toArray 35)).alloc (.cells o.cells.toArray 25)) W:=((uX _).alloc _).trans g
 exact⟨law_cells o g2,uK g (heap_allocE b_38)⟩
theorem ref_box (w:World) (o:Opn) (r b:Value) (W:World) (g:Grew (((w.alloc (.cells [r,b].toArray 35)).alloc (.cells o.cells.toArray 25)).alloc (.cells [.slice none 0 0,.slice none 0 0].toArray 35)) W):(W.cell? ⟨w.heap.size,0,none⟩=some (r)∧W.cell? ⟨w.heap.size,1,none⟩=some (b)∧W.cell? ⟨w.heap.size+1,0,none⟩=some (.int .i64 o.id)∧W.cell? ⟨w.heap.size+1,1,none⟩=some (.int .i64 o.day)∧W.cell? ⟨w.heap.size+1,2,none⟩=some (.int .i64 o.kind)∧W.cell? ⟨w.heap.size+1,3,none⟩=some (.int .i64 o.unit)∧W.cell? ⟨w.heap.size+1,4,none⟩=some (.int .i64 o.parent)∧W.cell? ⟨w.heap.size+1,5,none⟩=some (.int .i64 o.before)∧W.cell? ⟨w.heap.size+1,6,none⟩=some (.int .i64 o.level)∧W.cell? ⟨w.heap.size+1,7,none⟩=some (.string o.title)∧W.cell? ⟨w.heap.size+1,8,none⟩=some (.string o.mark)∧W.cell? ⟨w.heap.size+1,9,none⟩=some (.int .i64 o.office)∧W.cell? ⟨w.heap.size+1,10,none⟩=some (.int .i64 o.acc)∧W.cell? ⟨w.heap.size+1,11,none⟩=some (.int .i64 o.num))∧W.heap[w.heap.size+1+1]? = some (.cells #[.slice none 0 0,.slice none 0 0] 35 (0,0)):=ref_cells o g
theorem res4 {W:World} {R:Nat} (h:W.heap[R]? = some (.cells #[.slice none 0 0,.slice none 0 0] 35 (0,0))):W.cell? ⟨R,0,none⟩=some (.slice none 0 0)∧W.cell? ⟨R,1,none⟩=some (.slice none 0 0)∧W.frozen? ⟨R,0,none⟩=false∧W.frozen? ⟨R,1,none⟩=false:=by
 simp[World.cell?,World.frozen?,h]
theorem laidTr {w W:World} {R:Nat} {rv bv:Value} {t:Tr} {n:Int} (hR:W.heap[R]? = some (.cells #[.slice none 0 0,.slice none 0 0] 35 (0,0))) (hlo:w.heap.size≤R) (hG:Grew w W) (h:TrOk W rv bv t):RetTr (t,n) w (.returned (.tuple #[.agg #[rv,bv],.int .i64 n])) ((W.setCell ⟨R,0,none⟩ rv).setCell ⟨R,1,none⟩ bv) :=
 ⟨rv,bv,rfl,h.setT hR,(hG.setCell hlo _).setCell hlo _⟩
theorem slices2 {W:World} {rv bv:Value} {t:Tr} (h:TrOk W rv bv t):(∃ A n c,rv=.slice A n c)∧∃ A n c,bv=.slice A n c:=by
 obtain⟨A,c,e,-⟩:=SlI.open_ h.1
 obtain⟨A',c',e',-⟩:=SlBr.open_ h.2
 exact⟨⟨A,_,c,e⟩,A',_,c',e'⟩
theorem chG_set {t:Tr} (h:idsAsc t.brs) {fb:Br} (hb:fb∈t.brs) (f:Br→Br) (hf:∀ b,(f b).id=b.id∧(f b).kids=b.kids):chG t (f fb)=setU t fb.id f:=by
 unfold chG setU
 congr 1
 refine List.map_congr_left fun b hm=>?_
 unfold putU
 rw[(hf fb).1]
 by_cases e:b.id=fb.id
 ·have:=asc_same h hm hb e
  subst this
  rw[if_pos rfl,if_pos rfl]
  have h1:=(hf b).1
  have h2:=(hf b).2
  cases hfb:f b
  rw[hfb] at h1 h2
  simp only at h1 h2
  rw[← h1,← h2]
 ·rw[if_neg e,if_neg e]
end Go.Proofs.YtafncfomiolmgaaGreatDoor
namespace Go.Proofs.YtafncfomiolmgaaGreatDoor
open Go.RowKit
def levR (t:Tr) (p n:Int):Int:=if p=0 then(if n=1 then 0 else 18) else match brFind t.brs p with
 | none=>7
 | some b=>if fitsF b.level n=true then 0 else 18
set_option maxHeartbeats 4000000 in
theorem lev21 (t:Tr) (p n:Int) (rv bv:Value) (w:World) (hr:SlI w rv t.roots) (hv:SlBr w bv t.brs):Calls Tryz.prog 97 #[.agg #[rv,bv],.int .i64 p,.int .i64 n] w fun e w'=>e=.returned (.int .i64 (levR t p n))∧Grew w w':=by
 have kF:=fun W (hW:Grew w W)=>refFind19 t.brs p rv bv W (hv.mono hW)
 obtain⟨Ar,cr,rfl,-⟩:=SlI.open_ hr
 obtain⟨Ab,cb,rfl,-⟩:=SlBr.open_ hv
 clear hr hv
 unfold levR
 by_cases hp:p=0
 ·have hpb:(p == 0)=true:=by simpa using hp
  rw[if_pos hp]
  by_cases hn:n=1
  ·have hnb:(n != 1)=false:=by simpa using hn
   rw[if_pos hn]
   clear hp hn kF
   go_enter Tryz.func97,Tryz.ntmps97
   go_wp2
   go_ret
   exact⟨rfl,(uX w).alloc _⟩
  ·have hnb:(n != 1)=true:=by simpa using hn
   rw[if_neg hn]
   clear hp hn kF
   go_enter Tryz.func97,Tryz.ntmps97
   go_wp2
   go_ret
   exact⟨rfl,(uX w).alloc _⟩
 ·have hpb:(p == 0)=false:=by simpa using hp
  rw[if_neg hp]
  clear hp
  cases hb:brFind t.brs p with
  | none =>
   rw[hb] at kF
   unfold TFindEnd at kF
   dsimp only [Option.getD_none,Option.isSome_none,br0] at kF
   have KF:=uZ kF
   clear kF hb
   go_enter Tryz.func97,Tryz.ntmps97
   go_wp2_with fail
   refine(KF.out _ ((uX w).alloc _)).mono ?_
   rintro e w1 ⟨rfl,g1⟩
   have G1:=uZ (((uX w).alloc _).trans g1)
   clear g1
   dsimp only
   go_wp2
   go_ret
   exact⟨rfl,G1.out.alloc _⟩
  | some b =>
   obtain⟨fi,fp,fl,ft,fm,fk⟩:=b
   rw[hb] at kF
   unfold TFindEnd at kF
   dsimp only [Option.getD_some,Option.isSome_some] at kF ⊢
   have KF:=uZ kF
   have KT:=uZ (fun W=>refFits fl n W)
   clear kF hb
   generalize fitsF fl n=q at KT ⊢
   go_enter Tryz.func97,Tryz.ntmps97
   go_wp2_with fail
   refine(KF.out _ ((uX w).alloc _)).mono ?_
   rintro e w1 ⟨rfl,g1⟩
   have G1:=uZ (((uX w).alloc _).trans g1)
   clear g1
   dsimp only
   go_wp2_with fail
   refine(KT.out _).mono ?_
   rintro e w2 ⟨rfl,rfl⟩
   dsimp only
   cases q
   ·go_wp2
    go_ret
    exact⟨rfl,G1.out.alloc _⟩
   ·go_wp2
    go_ret
    exact⟨rfl,G1.out.alloc _⟩
end Go.Proofs.YtafncfomiolmgaaGreatDoor
namespace Go.Proofs.YtafncfomiolmgaaGreatDoor
open Go.RowKit
theorem top_there {l:List Br} {id:Int} (h:id=0∨∃ b∈l,b.id=id):topR l id=0:=by
 unfold topR
 by_cases h0:id=0
 ·rw[if_pos h0]
 ·rw[if_neg h0]
  obtain⟨b,hb,e⟩:=h.resolve_left h0
  unfold knownF
  have:(brFind l id).isSome=true:=by
   cases hf:brFind l id with
   | none=>exact absurd e ((find_none id).1 hf b hb)
   | some _=>rfl
  simp[this]
theorem belowR_there {t:Tr} (h:RightT t) {id:Int} (hi:id=0∨∃ b∈t.brs,b.id=id):belowR t id=(belowT t id,0):=by
 unfold belowR
 rw[if_pos h,if_pos (top_there hi)]
end Go.Proofs.YtafncfomiolmgaaGreatDoor
namespace Go.Proofs.YtafncfomiolmgaaGreatDoor
open Go.RowKit
def kidsIn (t:Tr) (S:List Int) (b:Br):Br:={ b with kids:=filt t S b.id }
def brsIn (t:Tr) (S:List Int):List Br:=t.brs.filter fun b=>decide (b.id∈S)
def partT (t:Tr) (S:List Int):Tr:=⟨filt t S 0,(brsIn t S).map (kidsIn t S)⟩
section
variable {t:Tr} {S:List Int}
end
end Go.Proofs.YtafncfomiolmgaaGreatDoor
namespace Go.Proofs.YtafncfomiolmgaaGreatDoor
open Go.RowKit
theorem rd_setS {W:World} {X j k:Nat} {ty:TypeId} {v x c0 c1:Value} {cs:List Value} (hX:W.heap[X]? = some (.cells #[c0,c1] ty (0,0))) (h0:∃ A n c,c0=.slice A n c) (h1:∃ A n c,c1=.slice A n c) (h:Rd W k v cs) (hk:0<k) (hi:∀ c,cs[0]? = some c→∀ A n m,c≠.slice A n m):Rd (W.setCell ⟨X,j,none⟩ x) k v cs:=by
 obtain⟨A0,n0,m0,rfl⟩:=h0
 obtain⟨A1,n1,m1,rfl⟩:=h1
 obtain⟨A,n,c,rfl,hl,hn,hc,h0⟩:=h
 refine⟨A,n,c,rfl,hl,hn,hc,fun hpos=>?_⟩
 obtain⟨b,off,rfl,hb,hcell⟩:=h0 hpos
 have hne:b≠X:=by
  intro e
  subst e
  have hlen:0<cs.length:=by
   rw[hl]
   exact Nat.mul_pos hpos hk
  have h1:=hcell 0 cs[0] (by rw[List.getElem?_eq_getElem hlen])
  have h2:=hi cs[0] (by rw[List.getElem?_eq_getElem hlen])
  simp[World.cell?,hX] at h1
  match off,h1 with
  | 0,h1=>simp at h1;exact h2 _ _ _ h1.symm
  | 1,h1=>simp at h1;exact h2 _ _ _ h1.symm
  | n+2,h1=>simp at h1
 refine⟨b,off,rfl,by simpa using hb,fun j u hu=>?_⟩
 rw[uV _ _ _ _ (adr_ne hne.symm)]
 exact hcell j u hu
theorem first_int (l:List Int):∀ c,(l.flatMap oneI)[0]? = some c→∀ A n m,c≠.slice A n m:=fun c hc=>by
 cases l with
 | nil=>cases hc
 | cons a r =>
  have:some (Value.int .i64 a)=some c:=hc
  injection this with this
  rw[← this]
  intro A n m e
  cases e
theorem first_br (cs:List BrC):∀ c,(cs.flatMap BrC.cells)[0]? = some c→∀ A n m,c≠.slice A n m:=fun c hc=>by
 cases cs with
 | nil=>cases hc
 | cons a r =>
  have:some (Value.int .i64 a.id)=some c:=hc
  injection this with this
  rw[← this]
  intro A n m e
  cases e
theorem sl_setS {W:World} {X j:Nat} {ty:TypeId} {v x c0 c1:Value} {l:List Int} (hX:W.heap[X]? = some (.cells #[c0,c1] ty (0,0))) (h0:∃ A n c,c0=.slice A n c) (h1:∃ A n c,c1=.slice A n c) (h:SlI W v l):SlI (W.setCell ⟨X,j,none⟩ x) v l:=rd_setS hX h0 h1 h b_37 (first_int l)
theorem TrOk.setS {W:World} {X j:Nat} {ty:TypeId} {rv bv x c0 c1:Value} {t:Tr} (hX:W.heap[X]? = some (.cells #[c0,c1] ty (0,0))) (h0:∃ A n c,c0=.slice A n c) (h1:∃ A n c,c1=.slice A n c) (h:TrOk W rv bv t):TrOk (W.setCell ⟨X,j,none⟩ x) rv bv t:=by
 obtain⟨k1,cs,k2,k3,k4⟩:=h
 exact⟨sl_setS hX h0 h1 k1,cs,rd_setS hX h0 h1 k2 b_37 (first_br cs),k3,fun i hi hi'=>⟨(k4 i hi hi').1,sl_setS hX h0 h1 (k4 i hi hi').2⟩⟩
theorem tr_slices {W:World} {rv bv:Value} {t:Tr} (h:TrOk W rv bv t):(∃ A n c,rv=.slice A n c)∧∃ A n c,bv=.slice A n c:=by
 obtain⟨A,c,e,-⟩:=SlI.open_ h.1
 obtain⟨A',c',e',-⟩:=SlBr.open_ h.2
 exact⟨⟨A,_,c,e⟩,A',_,c',e'⟩
structure BuildAt (WT:World) (t:Tr) (all:List Int) (va:Value) (B k:Nat) (ru bu:Value) (wr:World):Prop where
 box:wr.heap[B]? = some (.cells #[ru,bu] 35 (0,0))
 tree:TrOk wr ru bu (partT t (all.take k))
 list:SlI wr va all
 grew:Grew WT wr
 lo:WT.heap.size≤B
theorem BuildAt.step {WT wr w8:World} {t:Tr} {all:List Int} {va ru bu r8 b8:Value} {B k:Nat} (h:BuildAt WT t all va B k ru bu wr) (g:Grew wr w8) (ht:TrOk w8 r8 b8 (partT t (all.take (k+1)))):BuildAt WT t all va B (k+1) r8 b8 ((w8.setCell ⟨B,0,none⟩ r8).setCell ⟨B,1,none⟩ b8):=by
 have hb:=uK g h.box
 obtain⟨s0,s1⟩:=tr_slices h.tree
 obtain⟨q0,q1⟩:=tr_slices ht
 have hb1:=heap_setCell_same w8 B 0 #[ru,bu] 35 r8 hb
 have hb2:(w8.setCell ⟨B,0,none⟩ r8).heap[B]? = some (.cells #[r8,bu] 35 (0,0)):=by simpa using hb1
 have hb3:=heap_setCell_same (w8.setCell ⟨B,0,none⟩ r8) B 1 #[r8,bu] 35 b8 hb2
 exact⟨by simpa using hb3,(ht.setS hb s0 s1).setS hb2 q0 s1,sl_setS hb2 q0 s1 (sl_setS hb s0 s1 (h.list.mono g)),((h.grew.trans g).setCell h.lo _).setCell h.lo _,h.lo⟩
end Go.Proofs.YtafncfomiolmgaaGreatDoor