/- Lemmas on what the functions of the program and of the library compute: OpenO, OpenU, UnN, PlainUx, Awu0. The conditions stand at each. -/
import Derived.Test.YtdochkemaiokfaaGreatQ38
import Derived.Test.YtdochkemaiokfaaGreatQ9
import Derived.Test.YtdochkemaiokfaaGreatQ12
import Derived.Test.YtdochkemaiokfaaGreatQ36
import Derived.Test.YtdochkemaiokfaaGreatQ28
import Derived.Test.YtdochkemaiokfaaGreatQ27
import Derived.Test.YtdochkemaiokfaaGreatQ23
import Derived.Test.YtdochkemaiokfaaGreatQ29
import Derived.Test.YtdochkemaiokfaaGreatQ10
import Derived.Test.YtdochkemaiokfaaGreatQ3
/- What an operation that comes in reads as. No condition. -/
namespace Go.Proofs.YtdochkemaiokfaaGreat
open Go.ChangeShapes Go.WideShapes Go.ChangeAt Go.RowKit
section
variable {H:Type} {enc:TypeId × Value→H} {W:World}
set_option maxRecDepth 100000 in
theorem in_origin {n:Nat} {cs:List Value} {x:DataW H × List MemPlace} (h:DataW.trod enc Tryz.prog W 0 (fun _=>true) true n 24 cs=some x):∃ a b c:Int,cs=[.int .i64 a,.int .i64 b,.int .i64 c]:=by
 obtain⟨xs,m,-,-,hl,hlen,hf⟩:=DataW.trod_struct Tryz.underlying24 h
 have hl4:cs.length=3:=hl.trans (by kernel_rfl)
 match xs,hlen with
 | [y0,y1,y2],_ =>
  have h0:=hf 0 _ rfl
  have h1:=hf 1 _ rfl
  have h2:=hf 2 _ rfl
  match cs,hl4 with
  | [c0,c1,c2],_ =>
   have k1:Tryz.prog.cellsOf 3=1:=by kernel_rfl
   simp only [List.getElem_toArray,List.getElem_cons_zero,List.getElem_cons_succ,k1,List.getElem?_cons_zero,List.getElem?_cons_succ,List.drop_zero,List.drop_succ_cons,List.take_succ_cons,List.take_zero] at h0 h1 h2
   obtain⟨a,ha⟩:=in_int h0
   obtain⟨b,hb⟩:=in_int h1
   obtain⟨c,hc⟩:=in_int h2
   simp only [List.cons.injEq,and_true] at ha hb hc
   subst ha hb hc
   exact⟨a,b,c,rfl⟩
end
end Go.Proofs.YtdochkemaiokfaaGreat
/- What a log that comes in reads as. No condition. -/
namespace Go.Proofs.YtdochkemaiokfaaGreat
open Go.ChangeShapes Go.WideShapes Go.ChangeAt Go.RowKit
section
variable {H:Type} {enc:TypeId × Value→H} {W:World}
set_option maxRecDepth 100000 in
theorem in_opnW {n:Nat} {cs:List Value} {x:DataW H × List MemPlace} (h:DataW.trod enc Tryz.prog W 0 (fun _=>true) true n 26 cs=some x):∃ o:Opn,cs=o.cells∧WfO o:=by
 obtain⟨xs,m,-,-,hl,hlen,hf⟩:=DataW.trod_struct Tryz.underlying26 h
 have hl4:cs.length=12:=hl.trans (by kernel_rfl)
 match xs,hlen with
 | [y0,y1,y2,y3,y4,y5,y6,y7,y8,y9],_ =>
  have h0:=hf 0 _ rfl
  have h1:=hf 1 _ rfl
  have h2:=hf 2 _ rfl
  have h3:=hf 3 _ rfl
  have h4:=hf 4 _ rfl
  have h5:=hf 5 _ rfl
  have h6:=hf 6 _ rfl
  have h7:=hf 7 _ rfl
  have h8:=hf 8 _ rfl
  have h9:=hf 9 _ rfl
  match cs,hl4 with
  | [c0,c1,c2,c3,c4,c5,c6,c7,c8,c9,c10,c11],_ =>
   have k1:Tryz.prog.cellsOf 3=1:=by kernel_rfl
   have k2:Tryz.prog.cellsOf 9=1:=by kernel_rfl
   have k3:Tryz.prog.cellsOf 24=3:=by kernel_rfl
   simp only [List.getElem_toArray,List.getElem_cons_zero,List.getElem_cons_succ,k1,k2,k3,List.getElem?_cons_zero,List.getElem?_cons_succ,List.drop_zero,List.drop_succ_cons,List.take_succ_cons,List.take_zero] at h0 h1 h2 h3 h4 h5 h6 h7 h8 h9
   obtain⟨a0,e0,-,hiw⟩:=DataW.trod_int Tryz.underlying3 h0
   obtain⟨a1,e1⟩:=in_int h1
   obtain⟨a2,e2,-,hkw⟩:=DataW.trod_int Tryz.underlying3 h2
   obtain⟨a3,e3,-,huw⟩:=DataW.trod_int Tryz.underlying3 h3
   obtain⟨a4,e4⟩:=in_int h4
   obtain⟨a5,e5⟩:=in_int h5
   obtain⟨a6,e6⟩:=in_int h6
   obtain⟨a7,e7,-⟩:=DataW.trod_string Tryz.underlying9 h7
   obtain⟨a8,e8,hm8⟩:=DataW.trod_string Tryz.underlying9 h8
   obtain⟨a9,a10,a11,e9⟩:=in_origin h9
   simp only [List.cons.injEq,and_true] at e0 e1 e2 e3 e4 e5 e6 e7 e8 e9
   obtain⟨rfl,rfl,rfl⟩:=e9
   subst e0 e1 e2 e3 e4 e5 e6 e7 e8
   exact⟨⟨a0,a1,a2,a3,a4,a5,a6,a7,a8,a9,a10,a11⟩,rfl,⟨hiw,hkw,huw,hm8.2⟩⟩
set_option maxRecDepth 100000 in
theorem open_opnW {base:Nat} {v:Value} {d:DataW H} {ps:List MemPlace} (hval:Value.okWide Tryz.prog W .any base 26 v) (h:DataW.Trod enc Tryz.prog W 0 (fun _=>true) true 26 v d ps):∃ o:Opn,v=o.agg∧WfO o:=by
 obtain⟨cs,rfl,-⟩:=okWide_struct Tryz.underlying26 hval
 obtain⟨fuel,hf⟩:=h
 obtain⟨o,ho,hk⟩:=in_opnW hf
 simp only [Value.cells] at ho
 exact⟨o,by obtain⟨cs⟩:=cs;simp only at ho;rw[ho];rfl,hk⟩
set_option maxRecDepth 100000 in
theorem in_slO {n:Nat} {cs:List Value} {x:DataW H × List MemPlace} (h:DataW.trod enc Tryz.prog W 0 (fun _=>true) true n 22 cs=some x):∃ v,cs=[v]∧∃ l,SlO W v l∧∀ o∈l,WfO o :=
 open_in (k:=12) Opn.cells WfO (fun _=>rfl) (by omega) Tryz.underlying22 (by kernel_rfl) (fun n cs x hx=>in_opnW hx) h
set_option maxRecDepth 100000 in
theorem open_slO {base:Nat} {v:Value} {d:DataW H} {ps:List MemPlace} (hval:Value.okWide Tryz.prog W .any base 22 v) (h:DataW.Trod enc Tryz.prog W 0 (fun _=>true) true 22 v d ps):∃ l,SlO W v l∧∀ i (h:i<l.length),WfO l[i]:=by
 obtain⟨a0,len0,cap0,rfl⟩:=okWide_slice Tryz.underlying22 hval
 obtain⟨fuel,hf⟩:=h
 obtain⟨v,hv,l,hl,hw⟩:=in_slO hf
 simp only [Value.cells] at hv
 simp at hv
 subst hv
 exact⟨l,hl,fun i hi=>hw _ (List.getElem_mem hi)⟩
end
end Go.Proofs.YtdochkemaiokfaaGreat
/- undo: At, walked. The conditions: the library's own variables hold what they must; the numbers are numbers of an int. -/
namespace Go.Proofs.YtdochkemaiokfaaGreat
open Go.RowKit Go.Maps
theorem uAt1 (DB:Nat) (d:Int) (x:Opn) (w:World) (h:w.cell? ⟨DB,0,none⟩=some (.int .i64 d)):Calls Tryz.prog 50 (#[x.agg] ++ #[.pointer (some ⟨DB,0,none⟩)]) w fun e w'=>e=.returned (.bool (decide (d<x.day)))∧Grew w w':=by
 obtain⟨o0,o1,o2,o3,o4,o5,o6,o7,o8,o9,o10,o11⟩:=x
 unfold Opn.agg
 dsimp only
 have h3:=keep_cell ((Grew.refl w).alloc (.cells #[.int .i64 o0,.int .i64 o1,.int .i64 o2,.int .i64 o3,.int .i64 o4,.int .i64 o5,.int .i64 o6,.string o7,.string o8,.int .i64 o9,.int .i64 o10,.int .i64 o11] 26)) h
 go_enter Tryz.func50,Tryz.ntmps50
 go_wp2
 go_ret
 exact⟨rfl,(Grew.refl w).alloc _⟩
theorem enters_uAt1:∀ args w,(callFunc 50 args).run Tryz.prog w=.ok (.enter 50 args) w:=enters_of Tryz.func50 (by kernel_rfl) rfl
noncomputable def atR (l:List Opn) (d:Int):Tr × Int:=if (keepF l).2.2=0 then(if d<0∨1048575<d then(⟨[],[]⟩,2) else((replayF (l.filter fun o=>!decide (d<o.day))).1,0)) else(⟨[],[]⟩,1)
set_option maxHeartbeats 8000000 in
set_option maxRecDepth 100000 in
theorem uAt (l:List Opn) (d:Int) (hwf:∀ i (h:i<l.length),WfO l[i]) (lv:Value) (w:World) (hE:Env w) (hv:SlO w lv l) (hlen:l.length≤1000000):Calls Tryz.prog 24 #[lv,.int .i64 d] w (RetTr (atR l d) w):=by
 have K:=Lib.hid (fun W (g:Grew w W)=>uCheck l hwf lv W (hE.mono g) (hv.mono g) hlen)
 have KC:=Lib.hid (fun W (g:Grew w W)=>cloneO l lv W (hv.mono g) (by omega))
 have KD:=Lib.hid (fun v DB base W (h1:base≤W.heap.size) ho (hb:DB<base) (hc:W.cell? ⟨DB,0,none⟩=some (.int .i64 d))=>deleteFuncO l (fun o=>decide (d<o.day)) _ #[.pointer (some ⟨DB,0,none⟩)] enters_uAt1 base v W h1 ho (fun W2 x hg _=>uAt1 DB d x W2 ((Below.cell hg hb).trans hc)))
 have KR:=Lib.hid (fun v W (g:Grew w W) h=>uReplay (l.filter fun o=>!decide (d<o.day)) (fun i hi=>by
  obtain⟨j,hj,e⟩:=List.mem_iff_getElem.1 (List.mem_filter.1 (List.getElem_mem hi)).1
  rw[← e]
  exact hwf j hj) v W (hE.mono g) h (Nat.le_trans (List.length_filter_le _ _) hlen))
 obtain⟨A,c,rfl,-⟩:=hv.open_
 have HR0:atR l d=if (keepF l).2.2=0 then(if d<0∨1048575<d then(⟨[],[]⟩,2) else((replayF (l.filter fun o=>!decide (d<o.day))).1,0)) else(⟨[],[]⟩,1):=rfl
 unfold RetCk at K
 unfold RetRep at KR
 generalize atR l d=RES at HR0 ⊢
 generalize hLF:(l.filter fun o=>!decide (d<o.day))=LF at HR0 KR KD
 generalize replayF LF=RP at KR HR0
 obtain⟨T1,i1,n1⟩:=RP
 generalize (keepF l).2=R at K HR0
 obtain⟨i,n0⟩:=R
 dsimp only at K HR0 KR
 have HQ0:=Lib.hid HR0
 have HB:=Lib.hid (heapNew (w.alloc (.cells #[.int .i64 d] 3)) (.cells #[.slice none 0 0,.slice none 0 0] 43))
 have HDB:=Lib.hid (heapKeep ((Grew.refl _).alloc (.cells #[.slice none 0 0,.slice none 0 0] 43)) (heapNew w (.cells #[.int .i64 d] 3)))
 clear HR0 hwf hE hv hLF
 go_enter Tryz.func24,Tryz.ntmps24
 go_wp2_with fail
 refine(K.out _ (((Grew.refl w).alloc _).alloc _)).mono ?_
 rintro e w2 ⟨rfl,g⟩
 have HB2:=Lib.hid (heapKeep g HB.out)
 have HD2:=Lib.hid (heapKeep g HDB.out)
 have HG:=Lib.hid (show Grew w w2 from Grew.trans (((Grew.refl w).alloc _).alloc _) g)
 have hTB:(w.alloc (.cells #[.int .i64 d] 3)).heap.size=w.heap.size+1:=World.size_alloc _ _
 have hlo:w.heap.size≤w.heap.size+1:=by omega
 rw[hTB] at HB2
 clear HB HDB g hTB
 dsimp only
 by_cases hn:n0=0
 case neg =>
  have hbn:(n0 != 0)=true:=by simpa using hn
  obtain rfl:=HQ0.out.trans (if_neg hn)
  clear HQ0 hn
  have c0:w2.cell? ⟨w.heap.size+1,0,none⟩=some (.slice none 0 0):=cellOf HB2.out rfl
  have c1:w2.cell? ⟨w.heap.size+1,1,none⟩=some (.slice none 0 0):=cellOf HB2.out rfl
  have z0:w2.frozen? ⟨w.heap.size+1,0,none⟩=false:=freeOf HB2.out
  have z1:w2.frozen? ⟨w.heap.size+1,1,none⟩=false:=freeOf HB2.out
  go_wp2
  obtain⟨q0,q1⟩:=res_cells (v0:=(.slice none 0 0)) (v1:=(.slice none 0 0)) c0 c1
  refine bodyPost_ret (v:=.tuple #[.agg #[.slice none 0 0,.slice none 0 0],.int .i64 1]) (by simp[results,Tryz.results24,go_sem,q0,q1]) rfl ?_
  exact RetTr.none ((HG.out.setCell hlo _).setCell hlo _)
 case pos =>
  subst hn
  have hbn:((0:Int) != 0)=false:=rfl
  have HQ1:=Lib.hid (HQ0.out.trans (if_pos rfl))
  clear HQ0
  have d0:w2.cell? ⟨w.heap.size,0,none⟩=some (.int .i64 d):=cellOf HD2.out rfl
  by_cases hd:d<0∨1048575<d
  case pos =>
   obtain rfl:=HQ1.out.trans (if_pos hd)
   clear HQ1
   have c0:w2.cell? ⟨w.heap.size+1,0,none⟩=some (.slice none 0 0):=cellOf HB2.out rfl
   have c1:w2.cell? ⟨w.heap.size+1,1,none⟩=some (.slice none 0 0):=cellOf HB2.out rfl
   have z0:w2.frozen? ⟨w.heap.size+1,0,none⟩=false:=freeOf HB2.out
   have z1:w2.frozen? ⟨w.heap.size+1,1,none⟩=false:=freeOf HB2.out
   have HD:=Lib.hid hd
   clear hd
   by_cases ha:d<0
   case pos =>
    have hb1:decide (d<0)=true:=decide_eq_true ha
    clear ha
    go_wp2
    obtain⟨q0,q1⟩:=res_cells (v0:=(.slice none 0 0)) (v1:=(.slice none 0 0)) c0 c1
    refine bodyPost_ret (v:=.tuple #[.agg #[.slice none 0 0,.slice none 0 0],.int .i64 2]) (by simp[results,Tryz.results24,go_sem,q0,q1]) rfl ?_
    exact RetTr.none ((HG.out.setCell hlo _).setCell hlo _)
   case neg =>
    have hb1:decide (d<0)=false:=decide_eq_false ha
    have hb2:decide (1048575<d)=true:=decide_eq_true (by have:=HD.out;omega)
    clear ha
    go_wp2
    obtain⟨q0,q1⟩:=res_cells (v0:=(.slice none 0 0)) (v1:=(.slice none 0 0)) c0 c1
    refine bodyPost_ret (v:=.tuple #[.agg #[.slice none 0 0,.slice none 0 0],.int .i64 2]) (by simp[results,Tryz.results24,go_sem,q0,q1]) rfl ?_
    exact RetTr.none ((HG.out.setCell hlo _).setCell hlo _)
  case neg =>
   obtain rfl:=HQ1.out.trans (if_neg hd)
   have hb1:decide (d<0)=false:=decide_eq_false (by omega)
   have hb2:decide (1048575<d)=false:=decide_eq_false (by omega)
   clear HQ1 hd
   go_wp2_with fail
   refine(KC.out _ HG.out).mono ?_
   rintro e w3 ⟨v3,rfl,ho,g3⟩
   have HG3:=Lib.hid (HG.out.trans g3)
   have HB3:=Lib.hid (heapKeep g3 HB2.out)
   have d3:=keep_cell g3 d0
   have HO:=Lib.hid ho
   have HSZ:=Lib.hid g3.size
   have HLT:=Lib.hid (show w.heap.size<w2.heap.size from(Array.getElem?_eq_some_iff.1 HD2.out).1)
   have HTB:=Lib.hid (show w.heap.size+1<w2.heap.size from(Array.getElem?_eq_some_iff.1 HB2.out).1)
   clear ho g3 d0
   dsimp only
   go_wp2_with fail
   refine(KD.out _ _ _ _ HSZ.out HO.out HLT.out d3).mono ?_
   rintro e w4 ⟨v4,rfl,ho,b4⟩
   have HG4:=Lib.hid (show Grew w w4 from Below.trans HG3.out (b4.mono HG.out.size))
   have HB4:=Lib.hid (show w4.heap[w.heap.size+1]? = some (.cells #[.slice none 0 0,.slice none 0 0] 43 (0,0)) from(b4.block _ HTB.out).trans HB3.out)
   have HS4:=Lib.hid (show SlO w4 v4 LF from Rd.of_own ho)
   clear ho b4 d3
   dsimp only
   go_wp2_with fail
   refine(KR.out _ _ HG4.out HS4.out).mono ?_
   rintro e w5 ⟨rv,bv,rfl,ht,g5⟩
   obtain⟨RA,ra,hRA,-⟩:=SlI.open_ (v:=rv) (l:=T1.roots) (tr_i ht)
   subst hRA
   obtain⟨RB,rb,hRB,-⟩:=SlBr.open_ (v:=bv) (l:=T1.brs) (tr_br ht)
   subst hRB
   have gx:=(Grew.refl w5).alloc (.cells #[.slice RA T1.roots.length ra,.slice RB T1.brs.length rb] 43)
   have HXX:=heapNew w5 (.cells #[.slice RA T1.roots.length ra,.slice RB T1.brs.length rb] 43)
   obtain⟨wE,hwE⟩:∃ wE,w5.alloc (.cells #[.slice RA T1.roots.length ra,.slice RB T1.brs.length rb] 43)=wE:=⟨_,rfl⟩
   rw[hwE] at gx HXX
   have HGE:=Lib.hid (Grew.trans HG4.out (g5.trans gx))
   have HBE:=Lib.hid (heapKeep (g5.trans gx) HB4.out)
   have HTE:=Lib.hid (ht.mono gx)
   have x0:wE.cell? ⟨w5.heap.size,0,none⟩=some (.slice RA T1.roots.length ra):=cellOf HXX rfl
   have x1:wE.cell? ⟨w5.heap.size,1,none⟩=some (.slice RB T1.brs.length rb):=cellOf HXX rfl
   have c0:wE.cell? ⟨w.heap.size+1,0,none⟩=some (.slice none 0 0):=cellOf HBE.out rfl
   have c1:wE.cell? ⟨w.heap.size+1,1,none⟩=some (.slice none 0 0):=cellOf HBE.out rfl
   have z0:wE.frozen? ⟨w.heap.size+1,0,none⟩=false:=freeOf HBE.out
   have z1:wE.frozen? ⟨w.heap.size+1,1,none⟩=false:=freeOf HBE.out
   clear ht g5 gx HXX
   dsimp only
   go_wp2
   obtain⟨q0,q1⟩:=res_cells (v0:=(.slice RA T1.roots.length ra)) (v1:=(.slice RB T1.brs.length rb)) c0 c1
   refine bodyPost_ret (v:=.tuple #[.agg #[.slice RA T1.roots.length ra,.slice RB T1.brs.length rb],.int .i64 0]) (by simp[results,Tryz.results24,go_sem,q0,q1]) rfl ?_
   exact⟨_,_,rfl,HTE.out.setT HBE.out,(HGE.out.setCell hlo _).setCell hlo _⟩
end Go.Proofs.YtdochkemaiokfaaGreat
/- The example of the chapter of layer 22, plainly. No condition. -/
namespace Go.Proofs.YtdochkemaiokfaaGreat
open Go.RowKit
def uB1:List Br:=[⟨7,0,1,⟨#[84,111,119,110]⟩,⟨#[84]⟩,[]⟩]
def uT1:Tr:=⟨[7],uB1⟩
def uB2:List Br:=[⟨7,0,1,⟨#[84,111,119,110]⟩,⟨#[84]⟩,[8]⟩,⟨8,7,2,⟨#[65,99,116,115]⟩,⟨#[]⟩,[]⟩]
def uT2:Tr:=⟨[7],uB2⟩
theorem uB1Al0:BrAlone uB1 0 (by decide):=⟨by decide +kernel,by decide +kernel,fun h=>absurd h (by omega),by decide +kernel,fun _=>⟨by decide +kernel,by decide +kernel⟩⟩
theorem uB2Al0:BrAlone uB2 0 (by decide):=⟨by decide +kernel,by decide +kernel,fun h=>absurd h (by omega),by decide +kernel,fun _=>⟨by decide +kernel,by decide +kernel⟩⟩
theorem uB2Al1:BrAlone uB2 1 (by decide):=⟨by decide +kernel,by decide +kernel,fun _=>by decide +kernel,by decide +kernel,fun h=>absurd h (by decide +kernel)⟩
theorem emptyRight:RightT ⟨[],[]⟩:=by
 refine⟨by decide,fun i h=>absurd h (Nat.not_lt_zero i),fun i h=>absurd h (Nat.not_lt_zero i),fun i h=>absurd h (Nat.not_lt_zero i),by simp[sortI,kidsOf],fun i h=>absurd h (Nat.not_lt_zero i)⟩
theorem uT1Right:RightT uT1:=by
 refine⟨by decide,fun i h=>?_,fun i h=>?_,fun i h=>?_,by simp[sortI,kidsOf,uT1,uB1],fun i h=>?_⟩
 all_goals
  have:i=0:=by
   have h4:i<1:=h
   omega
  subst this
 ·exact uB1Al0
 ·simp[BrPlaced,uB1,uT1]
 ·first|decide +kernel|(simp[sortI,kidsOf,uB1,uT1];done)
 ·exact⟨1,(by decide +kernel:deep uB1 1 (uB1[0]'(by decide))=some 1),by omega⟩
theorem uT2Right:RightT uT2:=by
 refine⟨by decide,fun i h=>?_,fun i h=>?_,fun i h=>?_,by simp[sortI,kidsOf,uB2,uT2],fun i h=>?_⟩
 all_goals
  have:i=0∨i=1:=by
   have h4:i<2:=h
   omega
 ·rcases this with rfl|rfl
  ·exact uB2Al0
  ·exact uB2Al1
 ·rcases this with rfl|rfl<;>simp[BrPlaced,uB2,uT2,brFind,fitsF,within]
 ·rcases this with rfl|rfl<;>first|decide +kernel|(simp[sortI,kidsOf,uB2,uT2];done)
 ·rcases this with rfl|rfl
  ·exact⟨1,(by decide +kernel:deep uB2 2 (uB2[0]'(by decide))=some 1),by omega⟩
  ·exact⟨2,(by decide +kernel:deep uB2 2 (uB2[1]'(by decide))=some 2),by omega⟩
def uO1:Opn:=⟨1,0,1,7,0,0,1,⟨#[84,111,119,110]⟩,⟨#[84]⟩,0,0,0⟩
def uO2:Opn:=⟨2,0,1,8,7,0,2,⟨#[65,99,116,115]⟩,⟨#[]⟩,0,0,0⟩
def uO3:Opn:=⟨3,0,6,2,0,0,0,⟨#[]⟩,⟨#[]⟩,0,0,0⟩
def uO4:Opn:=⟨4,0,6,2,0,0,0,⟨#[]⟩,⟨#[]⟩,0,0,0⟩
def uP4:Opn:=⟨4,0,6,3,0,0,0,⟨#[]⟩,⟨#[]⟩,0,0,0⟩
def uO5:Opn:=⟨5,0,6,1,0,0,0,⟨#[]⟩,⟨#[]⟩,0,0,0⟩
theorem uN1:newT ⟨[],[]⟩ uO1=uT1:=by decide +kernel
theorem uN2:newT uT1 uO2=uT2:=by decide +kernel
theorem uAp1:applyR ⟨[],[]⟩ uO1=(uT1,0):=by
 unfold applyR
 rw[if_neg (not3 emptyRight (by decide +kernel) (by decide)),if_neg (by decide +kernel),uN1,if_pos uT1Right]
theorem uAp2:applyR uT1 uO2=(uT2,0):=by
 unfold applyR
 rw[if_neg (not3 uT1Right (by decide +kernel) (by decide)),if_neg (by decide +kernel),uN2,if_pos uT2Right]
theorem uAp3:(applyR ⟨[],[]⟩ uO2).2≠0:=by
 have h:faultO ⟨[],[]⟩ uO2≠0:=by decide +kernel
 unfold applyR
 rw[if_neg (not3 emptyRight (by decide +kernel) (by decide)),if_pos h]
 exact h
def uL2:List Opn:=[uO1,uO2]
def uL3:List Opn:=[uO1,uO2,uO3]
def uL4:List Opn:=[uO1,uO2,uO3,uO4]
theorem uC1:countI [uO1]=[(0,uO1)]:=by decide +kernel
theorem uC2:countI uL2=[(0,uO1),(1,uO2)]:=by decide +kernel
theorem uC3:countI uL3=[(0,uO1)]:=by decide +kernel
theorem uC4:countI uL4=[(0,uO1),(1,uO2)]:=by decide +kernel
theorem uC5:countI [uO1,uO2,uO3,uO4,uO5]=[(1,uO2)]:=by decide +kernel
theorem rep1:replayI [(0,uO1)] ⟨[],[]⟩=(uT1,-1,0):=by
 unfold replayI
 rw[uAp1,if_pos rfl]
 rfl
theorem rep2:replayI [(0,uO1),(1,uO2)] ⟨[],[]⟩=(uT2,-1,0):=by
 unfold replayI
 rw[uAp1,if_pos rfl]
 unfold replayI
 dsimp only
 rw[uAp2,if_pos rfl]
 rfl
theorem rep3:replayI [(1,uO2)] ⟨[],[]⟩=(⟨[],[]⟩,1,(applyR ⟨[],[]⟩ uO2).2):=by
 unfold replayI
 rw[if_neg uAp3]
theorem uR1:replayF [uO1]=(uT1,-1,0):=by unfold replayF;rw[uC1,rep1]
theorem uR2:replayF uL2=(uT2,-1,0):=by unfold replayF;rw[uC2,rep2]
theorem uR3:replayF uL3=(uT1,-1,0):=by unfold replayF;rw[uC3,rep1]
theorem uR4:replayF uL4=(uT2,-1,0):=by unfold replayF;rw[uC4,rep2]
theorem uR5:replayF [uO1,uO2,uO3,uO4,uO5]=(⟨[],[]⟩,1,(applyR ⟨[],[]⟩ uO2).2):=by unfold replayF;rw[uC5,rep3]
theorem uAd1:admitT [] ⟨[],[]⟩ uO1=(uT1,-1,0):=by
 unfold admitT
 rw[if_neg (by decide +kernel),if_neg (by decide),uAp1,if_neg (by decide)]
theorem uAd2:admitT [uO1] uT1 uO2=(uT2,-1,0):=by
 unfold admitT
 rw[if_neg (by decide +kernel),if_neg (by decide),uAp2,if_neg (by decide)]
theorem uAd3:admitT uL2 uT2 uO3=(uT1,-1,0):=by
 unfold admitT
 rw[if_neg (by decide +kernel),if_pos (by decide),show uL2++[uO3]=uL3 from rfl,uR3,if_neg (by decide)]
theorem uAd4:admitT uL3 uT1 uO4=(uT2,-1,0):=by
 unfold admitT
 rw[if_neg (by decide +kernel),if_pos (by decide),show uL3++[uO4]=uL4 from rfl,uR4,if_neg (by decide)]
theorem uAd4':admitT uL3 uT1 uP4=(uT1,-1,7):=by
 unfold admitT
 have h:faultK uL3 uP4=7:=by decide +kernel
 rw[h,if_pos (by decide)]
theorem uAd5:admitT uL4 uT2 uO5=(uT2,1,20):=by
 unfold admitT
 rw[if_neg (by decide +kernel),if_pos (by decide),show uL4++[uO5]=[uO1,uO2,uO3,uO4,uO5] from rfl,uR5,if_pos uAp3]
theorem uK0:keepF []=(⟨[],[]⟩,-1,0):=rfl
theorem uK1:keepF [uO1]=(uT1,-1,0):=by
 unfold keepF
 unfold keepI
 rw[uAd1,if_pos rfl]
 rfl
theorem uK2:keepF uL2=(uT2,-1,0):=by
 unfold keepF uL2
 unfold keepI
 rw[uAd1,if_pos rfl]
 unfold keepI
 rw[show([]:List Opn)++[uO1]=[uO1] from rfl]
 dsimp only
 rw[uAd2,if_pos rfl]
 rfl
theorem uK3:keepF uL3=(uT1,-1,0):=by
 unfold keepF uL3
 unfold keepI
 rw[uAd1,if_pos rfl]
 unfold keepI
 rw[show([]:List Opn)++[uO1]=[uO1] from rfl]
 dsimp only
 rw[uAd2,if_pos rfl]
 unfold keepI
 rw[show[uO1]++[uO2]=uL2 from rfl]
 dsimp only
 rw[uAd3,if_pos rfl]
 rfl
theorem uK4:keepF uL4=(uT2,-1,0):=by
 unfold keepF uL4
 unfold keepI
 rw[uAd1,if_pos rfl]
 unfold keepI
 rw[show([]:List Opn)++[uO1]=[uO1] from rfl]
 dsimp only
 rw[uAd2,if_pos rfl]
 unfold keepI
 rw[show[uO1]++[uO2]=uL2 from rfl]
 dsimp only
 rw[uAd3,if_pos rfl]
 unfold keepI
 rw[show uL2++[uO3]=uL3 from rfl]
 dsimp only
 rw[uAd4,if_pos rfl]
 rfl
theorem xF1:admR [] uO1=([uO1],-1,0):=by
 unfold admR
 rw[uK0,if_pos rfl,show replayF []=(⟨[],[]⟩,-1,0) from rfl]
 dsimp only
 rw[uAd1,if_pos rfl]
 rfl
theorem xF2:admR [uO1] uO2=(uL2,-1,0):=by
 unfold admR
 rw[uK1,if_pos rfl,uR1]
 dsimp only
 rw[uAd2,if_pos rfl]
 rfl
theorem xF3:admR uL2 uO3=(uL3,-1,0):=by
 unfold admR
 rw[uK2,if_pos rfl,uR2]
 dsimp only
 rw[uAd3,if_pos rfl]
 rfl
theorem xF4:admR uL3 uO4=(uL4,-1,0):=by
 unfold admR
 rw[uK3,if_pos rfl,uR3]
 dsimp only
 rw[uAd4,if_pos rfl]
 rfl
theorem xF4':admR uL3 uP4=([],-1,7):=by
 unfold admR
 rw[uK3,if_pos rfl,uR3]
 dsimp only
 rw[uAd4',if_neg (by decide)]
theorem xF5:admR uL4 uO5=([],1,20):=by
 unfold admR
 rw[uK4,if_pos rfl,uR4]
 dsimp only
 rw[uAd5,if_neg (by decide)]
theorem xFc:countsR uL3=([1],0):=by
 unfold countsR
 rw[uK3,if_pos rfl,uC3]
 rfl
theorem xFt3:treeR uL3=(uT1,0):=by
 unfold treeR
 rw[uK3,if_pos rfl,uR3]
theorem xFt4:treeR uL4=(uT2,0):=by
 unfold treeR
 rw[uK4,if_pos rfl,uR4]
theorem xFa:atR uL4 9=(uT2,0):=by
 unfold atR
 rw[uK4,if_pos rfl,if_neg (by decide),show(uL4.filter fun o=>!decide ((9:Int)<o.day))=uL4 by decide +kernel,uR4]
theorem xFe:evidR uL4=([⟨7,0,0,0⟩,⟨8,0,0,0⟩],0):=by
 unfold evidR
 rw[uK4,if_pos rfl]
 decide +kernel
theorem xOwn (m:ByteArray):ownerF uL4 m=if m=⟨#[84]⟩ then some 7 else none:=by
 unfold ownerF uL4
 by_cases h:m=⟨#[84]⟩
 ·subst h
  decide +kernel
 ·rw[if_neg h]
  have h1:decide ((⟨#[84]⟩:ByteArray)=m)=false:=decide_eq_false fun e=>h e.symm
  simp only [List.reverse_cons,List.reverse_nil,List.nil_append,List.cons_append,List.find?_cons,List.find?_nil]
  rw[show marksB uO4=false by decide +kernel,show marksB uO3=false by decide +kernel,show marksB uO2=false by decide +kernel,show uO1.mark=⟨#[84]⟩ from rfl,h1]
  simp
theorem xLedger:LedgerOk uL4 [⟨⟨#[84]⟩,7⟩]:=by
 refine⟨List.pairwise_singleton _ _,fun x=>?_⟩
 rw[xOwn]
 obtain⟨a,b⟩:=x
 constructor
 ·intro h
  have:=List.mem_singleton.1 h
  injection this with h1 h2
  subst h1 h2
  rfl
 ·intro h
  by_cases he:a=⟨#[84]⟩
  ·rw[if_pos he] at h
   injection h with h
   have h:(7:Int)=b:=h
   subst h he
   exact List.mem_singleton.2 rfl
  ·rw[if_neg he] at h
   cases h
end Go.Proofs.YtdochkemaiokfaaGreat
/- The example of the chapter of layer 22: what each call in it returns. The condition: the library's own variables hold what they must. -/
namespace Go.Proofs.YtdochkemaiokfaaGreat
open Go.RowKit
theorem uWf1:WfO uO1:=⟨by decide +kernel,by decide +kernel,by decide +kernel,by decide +kernel⟩
theorem uWf2:WfO uO2:=⟨by decide +kernel,by decide +kernel,by decide +kernel,by decide +kernel⟩
theorem uWf3:WfO uO3:=⟨by decide +kernel,by decide +kernel,by decide +kernel,by decide +kernel⟩
theorem uWf4:WfO uO4:=⟨by decide +kernel,by decide +kernel,by decide +kernel,by decide +kernel⟩
theorem uWf4':WfO uP4:=⟨by decide +kernel,by decide +kernel,by decide +kernel,by decide +kernel⟩
theorem uWf5:WfO uO5:=⟨by decide +kernel,by decide +kernel,by decide +kernel,by decide +kernel⟩
theorem uWfL4:∀ i (h:i<uL4.length),WfO uL4[i]:=fun i h=>by
 have:i=0∨i=1∨i=2∨i=3:=by
  have h4:i<4:=h
  omega
 rcases this with rfl|rfl|rfl|rfl
 ·exact uWf1
 ·exact uWf2
 ·exact uWf3
 ·exact uWf4
theorem uWfL3:∀ i (h:i<uL3.length),WfO uL3[i]:=fun i h=>by
 have:i=0∨i=1∨i=2:=by
  have h4:i<3:=h
  omega
 rcases this with rfl|rfl|rfl
 ·exact uWf1
 ·exact uWf2
 ·exact uWf3
theorem uWfL2:∀ i (h:i<uL2.length),WfO uL2[i]:=fun i h=>by
 have:i=0∨i=1:=by
  have h4:i<2:=h
  omega
 rcases this with rfl|rfl
 ·exact uWf1
 ·exact uWf2
theorem uWfL1:∀ i (h:i<[uO1].length),WfO [uO1][i]:=fun i h=>by
 have:i=0:=by
  have h4:i<1:=h
  omega
 subst this
 exact uWf1
def RetAd4 (l:List Opn) (n:Nat) (w:World) (e:Ending) (w':World):Prop:=∃ A c,e=.returned (.tuple #[.slice A n c,.int .i64 (-1),.int .i64 0])∧SlO w' (.slice A n c) l∧Grew w w'
theorem ad4_of {l:List Opn} {n:Nat} (hn:l.length=n) {w W:World} {e:Ending} (h:RetAd (l,-1,0) w e W):RetAd4 l n w e W:=by
 subst hn
 obtain⟨v,rfl,hv,hg⟩:=h
 obtain⟨A,c,rfl,-⟩:=hv.open_
 exact⟨A,c,rfl,hv,hg⟩
theorem aw_ad1 (w:World) (hE:Env w) (v:Value) (h:SlO w v []):Calls Tryz.prog 17 #[v,.agg #[.int .i64 1,.int .i64 0,.int .i64 1,.int .i64 7,.int .i64 0,.int .i64 0,.int .i64 1,.string ⟨#[84,111,119,110]⟩,.string ⟨#[84]⟩,.int .i64 0,.int .i64 0,.int .i64 0]] w (RetAd4 [uO1] 1 w):=by
 have:=uAdmitX [] uO1 (fun i h=>absurd h (Nat.not_lt_zero i)) uWf1 v w hE h (by decide)
 rw[xF1] at this
 exact this.mono fun _ _ h=>ad4_of rfl h
theorem aw_ad2 (w:World) (hE:Env w) (v:Value) (h:SlO w v [uO1]):Calls Tryz.prog 17 #[v,.agg #[.int .i64 2,.int .i64 0,.int .i64 1,.int .i64 8,.int .i64 7,.int .i64 0,.int .i64 2,.string ⟨#[65,99,116,115]⟩,.string ⟨#[]⟩,.int .i64 0,.int .i64 0,.int .i64 0]] w (RetAd4 uL2 2 w):=by
 have:=uAdmitX [uO1] uO2 uWfL1 uWf2 v w hE h (by decide)
 rw[xF2] at this
 exact this.mono fun _ _ h=>ad4_of rfl h
theorem aw_ad3 (w:World) (hE:Env w) (v:Value) (h:SlO w v uL2):Calls Tryz.prog 17 #[v,.agg #[.int .i64 3,.int .i64 0,.int .i64 6,.int .i64 2,.int .i64 0,.int .i64 0,.int .i64 0,.string ⟨#[]⟩,.string ⟨#[]⟩,.int .i64 0,.int .i64 0,.int .i64 0]] w (RetAd4 uL3 3 w):=by
 have:=uAdmitX uL2 uO3 uWfL2 uWf3 v w hE h (by decide)
 rw[xF3] at this
 exact this.mono fun _ _ h=>ad4_of rfl h
theorem aw_ad4 (w:World) (hE:Env w) (v:Value) (h:SlO w v uL3):Calls Tryz.prog 17 #[v,.agg #[.int .i64 4,.int .i64 0,.int .i64 6,.int .i64 2,.int .i64 0,.int .i64 0,.int .i64 0,.string ⟨#[]⟩,.string ⟨#[]⟩,.int .i64 0,.int .i64 0,.int .i64 0]] w (RetAd4 uL4 4 w):=by
 have:=uAdmitX uL3 uO4 uWfL3 uWf4 v w hE h (by decide)
 rw[xF4] at this
 exact this.mono fun _ _ h=>ad4_of rfl h
def RetAd5 (i n:Int) (w:World) (e:Ending) (w':World):Prop:=∃ v,e=.returned (.tuple #[v,.int .i64 i,.int .i64 n])∧Grew w w'
theorem aw_no4 (w:World) (hE:Env w) (v:Value) (h:SlO w v uL3):Calls Tryz.prog 17 #[v,.agg #[.int .i64 4,.int .i64 0,.int .i64 6,.int .i64 3,.int .i64 0,.int .i64 0,.int .i64 0,.string ⟨#[]⟩,.string ⟨#[]⟩,.int .i64 0,.int .i64 0,.int .i64 0]] w (RetAd5 (-1) 7 w):=by
 have:=uAdmitX uL3 uP4 uWfL3 uWf4' v w hE h (by decide)
 rw[xF4'] at this
 exact this.mono fun _ _ ⟨v,he,_,hg⟩=>⟨v,he,hg⟩
theorem aw_no5 (w:World) (hE:Env w) (v:Value) (h:SlO w v uL4):Calls Tryz.prog 17 #[v,.agg #[.int .i64 5,.int .i64 0,.int .i64 6,.int .i64 1,.int .i64 0,.int .i64 0,.int .i64 0,.string ⟨#[]⟩,.string ⟨#[]⟩,.int .i64 0,.int .i64 0,.int .i64 0]] w (RetAd5 1 20 w):=by
 have:=uAdmitX uL4 uO5 uWfL4 uWf5 v w hE h (by decide)
 rw[xF5] at this
 exact this.mono fun _ _ ⟨v,he,_,hg⟩=>⟨v,he,hg⟩
theorem aw_cnt (w:World) (hE:Env w) (v:Value) (h:SlO w v uL3):Calls Tryz.prog 20 #[v] w fun e w'=>∃ A c,e=.returned (.tuple #[.slice A 1 c,.int .i64 0])∧SlI w' (.slice A 1 c) [1]∧Grew w w':=by
 have:=uCountsX uL3 uWfL3 v w hE h (by decide)
 rw[xFc] at this
 refine this.mono ?_
 rintro e W ⟨v,rfl,hv,hg⟩
 obtain⟨A,c,rfl,-⟩:=SlI.open_ hv
 exact⟨A,c,rfl,hv,hg⟩
def RetT4 (n:Nat) (w:World) (e:Ending) (w':World):Prop:=∃ R r k B c,e=.returned (.tuple #[.agg #[.slice R k r,.slice B n c],.int .i64 0])∧Grew w w'
theorem t4_of {t:Tr} {n:Nat} (hn:t.brs.length=n) {w W:World} {e:Ending} (h:RetTr (t,0) w e W):RetT4 n w e W:=by
 subst hn
 obtain⟨rv,bv,rfl,hv,hg⟩:=h
 obtain⟨B,c,hB,-⟩:=SlBr.open_ (v:=bv) (tr_br hv)
 subst hB
 obtain⟨R,r,hR,-⟩:=SlI.open_ (v:=rv) (tr_i hv)
 subst hR
 exact⟨R,r,_,B,c,rfl,hg⟩
theorem aw_tr3 (w:World) (hE:Env w) (v:Value) (h:SlO w v uL3):Calls Tryz.prog 22 #[v] w (RetT4 1 w):=by
 have:=uTree uL3 uWfL3 v w hE h (by decide)
 rw[xFt3] at this
 exact this.mono fun _ _ h=>t4_of rfl h
theorem aw_tr4 (w:World) (hE:Env w) (v:Value) (h:SlO w v uL4):Calls Tryz.prog 22 #[v] w (RetT4 2 w):=by
 have:=uTree uL4 uWfL4 v w hE h (by decide)
 rw[xFt4] at this
 exact this.mono fun _ _ h=>t4_of rfl h
theorem aw_at (w:World) (hE:Env w) (v:Value) (h:SlO w v uL4):Calls Tryz.prog 24 #[v,.int .i64 9] w (RetT4 2 w):=by
 have:=uAt uL4 9 uWfL4 v w hE h (by decide)
 rw[xFa] at this
 exact this.mono fun _ _ h=>t4_of rfl h
theorem aw_led (w:World) (hE:Env w) (v:Value) (h:SlO w v uL4):Calls Tryz.prog 30 #[v] w fun e w'=>∃ A c,e=.returned (.tuple #[.slice A 1 c,.int .i64 0])∧SlM w' (.slice A 1 c) [⟨⟨#[84]⟩,7⟩]∧Grew w w':=by
 refine(uLedger uL4 uWfL4 v w hE h (by decide)).mono ?_
 rintro e W ⟨-,h1,hg⟩
 obtain⟨m,v,hm,rfl,hv⟩:=h1 (by rw[uK4])
 have:m=[⟨⟨#[84]⟩,7⟩]:=pair_ext ltM_asym hm.1 xLedger.1 fun x=>(hm.2 x).trans (xLedger.2 x).symm
 subst this
 obtain⟨A,c,rfl,-⟩:=SlM.open_ hv
 exact⟨A,c,rfl,hv,hg⟩
theorem aw_ev (w:World) (hE:Env w) (v:Value) (h:SlO w v uL4):Calls Tryz.prog 28 #[v] w fun e w'=>∃ A c,e=.returned (.tuple #[.slice A 2 c,.int .i64 0])∧Grew w w':=by
 have:=uEvidenceX uL4 uWfL4 v w hE h (by decide)
 rw[xFe] at this
 refine this.mono ?_
 rintro e W ⟨v,rfl,hv,hg⟩
 obtain⟨A,c,rfl,-⟩:=SlC.open_ hv
 exact⟨A,c,rfl,hg⟩
theorem aw_ck (w:World) (hE:Env w) (v:Value) (h:SlO w v uL4):Calls Tryz.prog 14 #[v] w fun e w'=>e=.returned (.tuple #[.int .i64 (-1),.int .i64 0])∧Grew w w':=by
 have:=uCheck uL4 uWfL4 v w hE h (by decide)
 rw[uK4] at this
 exact this.mono fun _ _ ⟨he,hg⟩=>⟨he,hg⟩
theorem eqI22 (v:Value) (w0 W:World) (h:SlI w0 v [1]) (hg:Grew w0 W):Calls Tryz.prog 26 #[v,.slice (some ⟨W.heap.size,0,none⟩) 1 1] (W.alloc (.cells #[.int .i64 1] 3)) fun e w'=>e=.returned (.bool true)∧Grew (W.alloc (.cells #[.int .i64 1] 3)) w':=by
 have:=equalI [1] [1] v _ _ (h.mono (hg.alloc (.cells #[.int .i64 1] 3))) (Rd.fresh W 3 1 1 [.int .i64 1] rfl (by decide))
 simpa using this
theorem eqM22 (v:Value) (w0 W:World) (h:SlM w0 v [⟨⟨#[84]⟩,7⟩]) (hg:Grew w0 W):Calls Tryz.prog 41 #[v,.slice (some ⟨W.heap.size,0,none⟩) 1 1] (W.alloc (.cells #[.string ⟨#[84]⟩,.int .i64 7] 62)) fun e w'=>e=.returned (.bool true)∧Grew (W.alloc (.cells #[.string ⟨#[84]⟩,.int .i64 7] 62)) w':=by
 have:=equalM [⟨⟨#[84]⟩,7⟩] [⟨⟨#[84]⟩,7⟩] v _ _ (h.mono (hg.alloc (.cells #[.string ⟨#[84]⟩,.int .i64 7] 62))) (Rd.fresh W 62 2 1 [.string ⟨#[84]⟩,.int .i64 7] rfl (by decide))
 rw[decide_eq_true rfl] at this
 exact this
end Go.Proofs.YtdochkemaiokfaaGreat