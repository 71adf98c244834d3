/- Lemmas on what the functions of the program and of the library compute: PlainUk, PlainUl, RSa, LULast, UnO, SortM, UnP, FrameR, OpenR. The conditions stand at each. -/
import Derived.Test.YtdochkemaiokfaaGreatQ36
import Derived.Test.YtdochkemaiokfaaGreatQ37
import Derived.Test.YtdochkemaiokfaaGreatQ10
import Derived.Test.YtdochkemaiokfaaGreatQ3
import Derived.BigQuiet
import Derived.Test.YtdochkemaiokfaaGreatQ2
import Derived.Test.YtdochkemaiokfaaGreatQ4
import Derived.Deep.CutRange
import Derived.Deep.RegionHeld3
import Derived.Test.YtdochkemaiokfaaGreatQ28
import Derived.Test.YtdochkemaiokfaaGreatQ29
import Derived.OwnWalkIn
import Derived.Test.YtdochkemaiokfaaGreatQ1
import Derived.Sort.OwnSorted
import Derived.Sort.MapsRangeIn
import Derived.Maps.AppendAt
import Derived.Maps.RangeWalk
import Derived.Test.YtdochkemaiokfaaGreatQ14
import Derived.Test.YtdochkemaiokfaaGreatRows
import Derived.WalkKit
import Derived.ProofKit
import Derived.OpenShut
import Derived.Carry
import Derived.ChangeMaps5
import Derived.SliceStrings
import Derived.Deep.Slices
import Derived.Deep.DeepHandedRow
import Derived.Lib.LaidTab
import Derived.LaidSub
import Derived.Shelf.Vars
/- UndoLast plainly, over what the program's exported functions return. No condition. -/
namespace Go.Proofs.YtdochkemaiokfaaGreat
open Go.RowKit
theorem nextW_undo (l:List Opn) (u:Int):∃ i d,nextW l u=undoO i d u:=by
 unfold nextW
 split
 ·exact⟨_,_,rfl⟩
 ·exact⟨_,_,rfl⟩
theorem nextW_wf (l:List Opn) (u:Int) (h:(Lit.int .i64 u).wf=true):WfO (nextW l u):=by
 unfold nextW
 split
 ·exact⟨wrap64_wf _,(by decide:(Lit.int .i64 6).wf=true),h,Nat.zero_le _⟩
 ·exact⟨(by decide:(Lit.int .i64 1).wf=true),(by decide:(Lit.int .i64 6).wf=true),h,Nat.zero_le _⟩
theorem keep_of {l:List Opn} (h:AdmL l):keepF l=((replayF l).1,-1,0):=by
 refine(keep_ok ?_).2
 have:=(keep_adm l [] .nil).2
 rw[List.nil_append] at this
 exact this h
theorem tree_of {l:List Opn} (h:AdmL l):treeR l=((replayF l).1,0):=by
 unfold treeR
 rw[keep_of h]
 rfl
theorem adm_of {l:List Opn} {o:Opn} (h:(admR l o).2.2=0):AdmL l∧(admitT l (replayF l).1 o).2.2=0∧admR l o=(l++[o],-1,0)∧AdmL (l++[o]):=by
 unfold admR at h ⊢
 by_cases h0:(keepF l).2.2=0
 ·rw[if_pos h0] at h ⊢
  have hA:=(keep_ok h0).1
  by_cases h1:(admitT l (replayF l).1 o).2.2=0
  ·rw[if_pos h1]
   exact⟨hA,h1,rfl,.snoc hA h1⟩
  ·rw[if_neg h1] at h
   exact absurd h h1
 ·rw[if_neg h0] at h
  exact absurd (show(1:Int)=0 from h) (by decide)
theorem adm_no {l:List Opn} {o:Opn} (h:(admR l o).2.2≠0):(admR l o).1=[]:=by
 unfold admR at h ⊢
 by_cases h0:(keepF l).2.2=0
 ·rw[if_pos h0] at h ⊢
  by_cases h1:(admitT l (replayF l).1 o).2.2=0
  ·rw[if_pos h1] at h
   exact absurd rfl h
  ·rw[if_neg h1]
 ·rw[if_neg h0]
theorem last_law (m:List Opn) (o:Opn) (h:(admR (m++[o]) (nextW (m++[o]) o.id)).2.2=0):o.kind≠6∧treeR (admR (m++[o]) (nextW (m++[o]) o.id)).1=((replayF m).1,0)∧treeR m=((replayF m).1,0):=by
 obtain⟨hA,h1,h2,h3⟩:=adm_of h
 obtain⟨i,d,hn⟩:=nextW_undo (m++[o]) o.id
 rw[h2]
 rw[hn] at h1 h3 ⊢
 obtain⟨k1,k2⟩:=last_ok hA h1
 refine⟨k1,?_,tree_of (adm_inv hA).1⟩
 rw[tree_of h3,k2]
end Go.Proofs.YtdochkemaiokfaaGreat
/- UndoTwice and UndoWithout plainly, over what the program's exported functions return. No condition. -/
namespace Go.Proofs.YtdochkemaiokfaaGreat
open Go.RowKit
theorem formed_id {o:Opn} (h:formedO o=true):1≤o.id∧o.id≤1073741824:=by
 unfold formedO at h
 have h1:within o.id 1 1073741824=true:=by
  cases hw:within o.id 1 1073741824
  ·rw[hw] at h;simp at h
  ·rfl
 unfold within at h1
 simp only [Bool.and_eq_true,decide_eq_true_eq] at h1
 exact h1
theorem nextW_eq {l:List Opn} (h:AdmL l) (u:Int):nextW l u=nextU l u:=by
 unfold nextW nextU
 cases hl:l.getLast? with
 | none=>rfl
 | some y =>
  have hb:=formed_id ((adm_ok h).formed y (List.mem_of_getLast? hl))
  have hw:wrap64 (y.id+1)=y.id+1:=by unfold wrap64;omega
  simp only [hw,undoO]
theorem twice_law {l:List Opn} {u:Int} (hlen:l.length≤24) (h:(admR l (nextW l u)).2.2=0) (hid:(nextW l u).id≠1073741824) :
  admR l (nextW l u)=(l++[nextW l u],-1,0)∧treeR l=((replayF l).1,0)∧admR (l++[nextW l u]) (nextW (l++[nextW l u]) u)=(l++[nextW l u]++[nextW (l++[nextW l u]) u],-1,0)∧treeR (l++[nextW l u]++[nextW (l++[nextW l u]) u])=((replayF l).1,0):=by
 obtain⟨hA,h1,h2,h3⟩:=adm_of h
 have e1:=nextW_eq hA u
 have e2:=nextW_eq h3 u
 rw[e1] at e2 h1 h2 h3 hid ⊢
 obtain⟨k1,k2,k3⟩:=twice_ok hA h1 hlen hid
 rw[e2]
 have k4:=AdmL.snoc k1 k2
 refine⟨h2,tree_of hA,?_,?_⟩
 ·unfold admR
  rw[keep_of k1,if_pos rfl,if_pos k2]
 ·rw[tree_of k4,k3]
theorem without_law {l:List Opn} {u:Int} (h:(admR l (nextW l u)).2.2=0) (hc:u∈(countI l).map fun p=>p.2.id) :
  treeR (admR l (nextW l u)).1=((replayF (restL l u)).1,0)∧((treeR (restL l u)).2=0→(treeR (restL l u)).1=(replayF (restL l u)).1):=by
 obtain⟨hA,h1,h2,h3⟩:=adm_of h
 obtain⟨p,hp,hu⟩:=List.mem_map.1 hc
 rw[countI_idx] at hp
 obtain⟨hm,hcb⟩:=List.mem_filter.1 hp
 obtain⟨i,d,hn⟩:=nextW_undo l u
 rw[h2]
 rw[hn] at h3 ⊢
 refine⟨?_,fun k=>?_⟩
 ·rw[tree_of h3,without_ok hA (idx_mem hm) hu hcb]
 ·unfold treeR at k ⊢
  by_cases h0:(keepF (restL l u)).2.2=0
  ·rw[if_pos h0]
  ·rw[if_neg h0] at k
   exact absurd (show(1:Int)=0 from k) (by decide)
end Go.Proofs.YtdochkemaiokfaaGreat
/- The reference's comparison of trees, walked at two trees that read alike. The condition: the lists are short. -/
namespace Go.Proofs.YtdochkemaiokfaaGreat
open Go.RowKit
theorem neqUself (w:World) (x0 x1 x2:Int) (x3 x4:ByteArray):(binOp .neq 64 (.agg #[.int .i64 x0,.int .i64 x1,.int .i64 x2,.string x3,.string x4]) (.agg #[.int .i64 x0,.int .i64 x1,.int .i64 x2,.string x3,.string x4])).run Tryz.prog w=.ok (.bool false) w:=by
 have hS:Tryz.prog.underlying 64=some (.struct (Tryz.prog.fieldsOf 64)):=by kernel_rfl
 have hp:Tryz.prog.stoodInHeld 64=false:=by kernel_rfl
 rw[run_neq_struct,show(10000:Nat)=9999+1 from rfl,run_equalIn_agg w 9999 64 _ _ hS hp]
 simp only [Program.fieldsOf,Tryz.underlying64]
 go_simp
set_option maxHeartbeats 4000000 in
theorem sameI19 (l:List Int) (v u:Value) (w:World) (hv:SlI w v l) (hu:SlI w u l):Calls Tryz.prog 51 #[v,u] w fun e w'=>e=.returned (.bool true)∧Grew w w':=by
 obtain⟨A,c,rfl,hlc,hc,hr⟩:=hv.open_
 obtain⟨A',c',rfl,hlc',hc',hr'⟩:=hu.open_
 unfold maxLen at hc hc'
 have HR:=Lib.hid hr
 have HR':=Lib.hid hr'
 have hne:((l.length:Int) != (l.length:Int))=false:=by simp
 clear hr hr' hv hu
 go_enter Tryz.func51,Tryz.ntmps51
 go_wp2
 go_loopg [5] l.length (fun gg s5 wr=>∃ k:Nat,k≤l.length∧l.length-k≤gg∧s5=.int .i64 k∧Aside (Grew w wr))
 case atStart=>exact⟨0,by omega,by omega,rfl,(show Aside _ from Grew.refl _)⟩
 case round =>
  obtain⟨k,hk,hgk,rfl,BW⟩:=hrel
  by_cases hlt:k<l.length
  ·have hltz:(k:Int)<(l.length:Int):=by omega
   have h0z:(0:Int)≤(k:Int):=by omega
   obtain⟨b,off,rfl,hb,hcell⟩:=HR.out (by omega)
   obtain⟨b',off',rfl,hb',hcell'⟩:=HR'.out (by omega)
   have c0:=hcell wr BW.out k hlt
   have d0:=hcell' wr BW.out k hlt
   generalize l[k]=y at c0 d0
   clear hcell hcell'
   go_wp2
   go_quiet (fail)
   clear c0 d0
   go_wp2
   go_roundg (l.length-(k+1))
   case measure=>omega
   case rel=>exact⟨k+1,by omega,by omega,by go_num,(show Aside _ from BW.out.drewN _)⟩
  ·have hltz:¬ (k:Int)<(l.length:Int):=by omega
   go_wp2
   go_ret
   exact⟨rfl,BW.out⟩
theorem same_size (w:World) (o:Obj):(w.alloc o).heap.size=w.heap.size+1:=by simp
set_option maxHeartbeats 8000000 in
set_option maxRecDepth 100000 in
theorem same19 (t:Tr) (ra ba rb bb:Value) (w:World) (ha:TrOk w ra ba t) (hb:TrOk w rb bb t):Calls Tryz.prog 27 #[.agg #[ra,ba],.agg #[rb,bb]] w fun e w'=>e=.returned (.bool true)∧Grew w w':=by
 have kS:=fun W (hW:Grew w W)=>sameI19 t.roots ra rb W (ha.1.mono hW) (hb.1.mono hW)
 obtain⟨Aa,ca,rfl,hal,hac,har⟩:=ha.2.open_
 obtain⟨Ab,cb,rfl,hbl,hbc,hbr⟩:=hb.2.open_
 unfold maxLen at hac hbc
 have HA:=Lib.hid har
 have HB:=Lib.hid hbr
 have KS:=Lib.hid kS
 have hne:((t.brs.length:Int) != (t.brs.length:Int))=false:=by simp
 have HX:=Lib.hid (fun W (g:Grew ((w.alloc (.cells [ra,.slice Aa t.brs.length ca].toArray 43)).alloc (.cells [rb,.slice Ab t.brs.length cb].toArray 43)) W)=>(show W.cell? ⟨w.heap.size,1,none⟩=some (.slice Aa t.brs.length ca)∧W.cell? ⟨w.heap.size+1,1,none⟩=some (.slice Ab t.brs.length cb) from⟨new_cell (w:=w) (((Grew.refl _).alloc _).trans g) 1 _ rfl,by
  have:=new_cell g 1 _ rfl
  rw[same_size] at this
  exact this⟩))
 clear har hbr kS ha hb
 go_enter Tryz.func27,Tryz.ntmps27
 go_wp2_with fail
 refine(KS.out _ (((Grew.refl w).alloc _).alloc _)).mono ?_
 rintro e w1 ⟨rfl,g1⟩
 obtain⟨x1,y1⟩:=HX.out w1 g1
 have HG1:=Lib.hid ((((Grew.refl w).alloc _).alloc _).trans g1)
 have HXG:=Lib.hid (fun W (g:Grew w1 W)=>HX.out W (g1.trans g))
 clear g1 HX
 dsimp only
 go_wp2
 clear x1 y1
 go_loopg [5] t.brs.length (fun gg s5 wr=>∃ k:Nat,k≤t.brs.length∧t.brs.length-k≤gg∧s5=.int .i64 k∧Aside (Grew w1 wr))
 case atStart=>exact⟨0,by omega,by omega,rfl,(show Aside _ from Grew.refl _)⟩
 case round =>
  obtain⟨k,hk,hgk,rfl,BW⟩:=hrel
  obtain⟨x1,y1⟩:=HXG.out wr BW.out
  by_cases hlt:k<t.brs.length
  ·have hltz:(k:Int)<(t.brs.length:Int):=by omega
   have h0z:(0:Int)≤(k:Int):=by omega
   obtain⟨b,off,rfl,hb,hcell⟩:=HA.out (by omega)
   obtain⟨b',off',rfl,hb',hcell'⟩:=HB.out (by omega)
   obtain⟨ka,hka,hca⟩:=hcell k hlt
   obtain⟨kb,hkb,hcb⟩:=hcell' k hlt
   have KK:=Lib.hid (fun W (hW:Grew w W)=>sameI19 t.brs[k].kids ka kb W (hka.mono hW) (hkb.mono hW))
   obtain⟨c0,c1,c2,c3,c4,c5⟩:=hca wr (HG1.out.trans BW.out)
   obtain⟨d0,d1,d2,d3,d4,d5⟩:=hcb wr (HG1.out.trans BW.out)
   generalize t.brs[k]=y at c0 c1 c2 c3 c4 c5 d0 d1 d2 d3 d4 d5 KK
   obtain⟨yi,yp,yl,yt,ym,yk⟩:=y
   dsimp only at c0 c1 c2 c3 c4 c5 d0 d1 d2 d3 d4 d5 KK
   have kN:=fun w=>neqUself w yi yp yl yt ym
   have GW:=Lib.hid (HG1.out.trans BW.out)
   clear hcell hcell' hka hkb hca hcb
   go_wp2
   have f1:=Gr.cell x1
   have g1:=Gr.cell y1
   have fc0:=Gr.cell c0
   have fc1:=Gr.cell c1
   have fc2:=Gr.cell c2
   have fc3:=Gr.cell c3
   have fc4:=Gr.cell c4
   have fc5:=Gr.cell c5
   have fd0:=Gr.cell d0
   have fd1:=Gr.cell d1
   have fd2:=Gr.cell d2
   have fd3:=Gr.cell d3
   have fd4:=Gr.cell d4
   have fd5:=Gr.cell d5
   clear x1 y1 c0 c1 c2 c3 c4 c5 d0 d1 d2 d3 d4 d5
   refine region_gr wr (by kernel_rfl) (by kernel_rfl) (Grew.refl _) ?_
   repeat (first|go_big_quiet_step ((exact Gr.calls _ (KK.out _ (GW.out.trans (Gr.g _)))))|quiet_step ((exact Gr.calls _ (KK.out _ (GW.out.trans (Gr.g _))))))
   refine wpQuiet_nil ?_
   intro _ hw'
   obtain⟨wi,rfl⟩:=hw'
   have HWI:=Lib.hid (BW.out.trans wi.g)
   clear f1 g1 fc0 fc1 fc2 fc3 fc4 fc5 fd0 fd1 fd2 fd3 fd4 fd5
   go_wp2
   go_roundg (t.brs.length-(k+1))
   case measure=>omega
   case rel=>exact⟨k+1,by omega,by omega,by go_num,(show Aside _ from HWI.out)⟩
  ·have hltz:¬ (k:Int)<(t.brs.length:Int):=by omega
   go_wp2
   go_ret
   exact⟨rfl,HG1.out.trans BW.out⟩
end Go.Proofs.YtdochkemaiokfaaGreat
/- UndoLast, walked; awake is given as hA. No other condition. -/
namespace Go.Proofs.YtdochkemaiokfaaGreat
open Go.RowKit
theorem SlO.init {W:World} {A:Option Addr} {n c:Nat} {m:List Opn} {o:Opn} (h:SlO W (.slice A n c) (m++[o])):SlO W (.slice A m.length c) m:=by
 obtain⟨A',n',c',hv,hl,hn,hc,h0⟩:=h
 cases hv
 have hf:=flatMap_len Opn.cells 12 (fun _=>rfl) (m++[o])
 have hm:=flatMap_len Opn.cells 12 (fun _=>rfl) m
 rw[List.length_append,List.length_singleton] at hf
 refine⟨A,m.length,c,rfl,by omega,by omega,hc,fun hpos=>?_⟩
 obtain⟨b,off,hA,hb,hcell⟩:=h0 (by omega)
 refine⟨b,off,hA,hb,fun j u hj=>hcell j u ?_⟩
 rw[List.flatMap_append,List.getElem?_append_left (List.getElem?_eq_some_iff.1 hj).1]
 exact hj
def AdCut (WA:World) (R:List Opn × Int × Int) (s4 s5 s6:Value) (wx:World):Prop:=∃ A c,s4=.slice A R.1.length c∧s5=.int .i64 R.2.1∧s6=.int .i64 R.2.2∧Aside (SlO wx (.slice A R.1.length c) R.1)∧Aside (Grew WA wx)
theorem ad_meet {WA W:World} {R:List Opn × Int × Int} {A:Option Addr} {c:Nat} (h:SlO W (.slice A R.1.length c) R.1) (g:Grew WA W):AdCut WA R (.slice A R.1.length c) (.int .i64 R.2.1) (.int .i64 R.2.2) W:=⟨A,c,rfl,rfl,rfl,(show Aside _ from h),(show Aside _ from g)⟩
set_option maxHeartbeats 8000000 in
set_option maxRecDepth 100000 in
theorem last_of (l:List Opn) (hwf:∀ i (h:i<l.length),WfO l[i]) (lv:Value) (w:World) (hE:Env w) (hv:SlO w lv l) (hA:∀ W,Grew w W→Calls Tryz.prog 11 #[] W fun e W'=>e=.returned (.bool true)∧Grew W W'):Calls Tryz.prog 8 #[lv] w fun e W'=>e=.returned (.bool true)∧Grew w W':=by
 have KA:=Lib.hid hA
 have KW:=Lib.hid (fun W (g:Grew w W)=>few22 l lv W (hv.mono g))
 have HV:=Lib.hid hv
 have HE:=Lib.hid hE
 have HWF:=Lib.hid hwf
 have KCL:=Lib.hid (fun W (g:Grew w W) (h:l.length≤24)=>cloneO l lv W (hv.mono g) (by omega))
 have KN:=Lib.hid (fun u W (g:Grew w W)=>lNext l u lv W (hv.mono g))
 have KAD:=Lib.hid (fun u (hu:(Lit.int .i64 u).wf=true) (h:l.length≤24) v W (g:Grew w W) (h2:SlO W v l)=>uAdmitX l (nextW l u) hwf (nextW_wf l u hu) v W (hE.mono g) h2 (by omega))
 obtain⟨A,c,rfl,hlc,hcap,hr⟩:=hv.open_
 unfold maxLen at hcap
 have HR:=Lib.hid hr
 clear hA hwf hE hv hr
 go_enter Tryz.func8,Tryz.ntmps8
 go_wp2_with fail
 refine(KA.out _ (Grew.refl w)).mono ?_
 rintro e wa ⟨rfl,ga⟩
 have HG:=Lib.hid ga
 clear ga
 dsimp only
 go_wp2_with fail
 refine(KW.out _ HG.out).mono ?_
 rintro e wb ⟨q,rfl,hq,gb⟩
 have HQ:=Lib.hid hq
 have HG2:=Lib.hid (HG.out.trans gb)
 clear hq gb HG
 dsimp only
 cases q
 case false =>
  clear HQ
  go_wp2_with fail
  refine(KA.out _ HG2.out).mono ?_
  rintro e wz ⟨rfl,g3⟩
  have HG3:=Lib.hid (HG2.out.trans g3)
  clear g3
  dsimp only
  go_wp2
  go_ret
  exact⟨rfl,HG3.out⟩
 case true =>
  have HF:=Lib.hid (HQ.out (by first|rfl|trivial))
  clear HQ
  rcases Nat.eq_zero_or_pos l.length with h0|h0
  ·have hb:((l.length:Int) == 0)=true:=by simp[h0]
   have hb2:(l.length == 0)=true:=by simp[h0]
   go_wp2_with fail
   refine(KA.out _ HG2.out).mono ?_
   rintro e wz ⟨rfl,g3⟩
   have HG3:=Lib.hid (HG2.out.trans g3)
   clear g3
   dsimp only
   go_wp2
   go_ret
   exact⟨rfl,HG3.out⟩
  ·obtain⟨k,hk⟩:∃ k,l.length=k+1:=⟨l.length-1,by omega⟩
   obtain⟨b,off,rfl,hbb,hcell⟩:=HR.out h0
   have hkl:k<l.length:=by omega
   obtain⟨c0,c1,c2,c3,c4,c5,c6,c7,c8,c9,c10,c11⟩:=hcell wb HG2.out k hkl
   obtain⟨m,o,hmo⟩:∃ m o,l=m++[o]:=⟨l.dropLast,l.getLast (by intro e;rw[e] at h0;cases h0),(List.dropLast_concat_getLast _).symm⟩
   have hlo:l[k]=o:=by
    subst hmo
    rw[List.getElem_append_right (by rw[List.length_append,List.length_singleton] at hk;omega)]
    simp
   rw[hlo] at c0 c1 c2 c3 c4 c5 c6 c7 c8 c9 c10 c11
   have HMO:=Lib.hid hmo
   clear hmo hlo
   have HK:=Lib.hid hk
   rw[hk] at hlc ⊢
   have hsub:wrap64 (((k+1:Nat):Int)-1)=(k:Int):=by
    rw[show(((k+1:Nat):Int)-1)=(k:Int) by omega]
    unfold wrap64
    omega
   clear hk h0 hkl hcell
   obtain⟨o0,o1,o2,o3,o4,o5,o6,o7,o8,o9,o10,o11⟩:=o
   dsimp only at c0 c1 c2 c3 c4 c5 c6 c7 c8 c9 c10 c11
   have HX0:=Lib.hid (heapNew wb (.cells #[.int .i64 o0,.int .i64 o1,.int .i64 o2,.int .i64 o3,.int .i64 o4,.int .i64 o5,.int .i64 o6,.string o7,.string o8,.int .i64 o9,.int .i64 o10,.int .i64 o11] 26))
   have HGD:=Lib.hid (HG2.out.alloc (.cells #[.int .i64 o0,.int .i64 o1,.int .i64 o2,.int .i64 o3,.int .i64 o4,.int .i64 o5,.int .i64 o6,.string o7,.string o8,.int .i64 o9,.int .i64 o10,.int .i64 o11] 26))
   go_wp2_with fail
   clear c0 c1 c2 c3 c4 c5 c6 c7 c8 c9 c10 c11
   generalize wb.alloc (.cells #[.int .i64 o0,.int .i64 o1,.int .i64 o2,.int .i64 o3,.int .i64 o4,.int .i64 o5,.int .i64 o6,.string o7,.string o8,.int .i64 o9,.int .i64 o10,.int .i64 o11] 26)=wd at *
   generalize wb.heap.size=T3 at *
   have HWO:=Lib.hid (show(Lit.int .i64 o0).wf=true from by
    have h1:=HMO.out
    have h2:=(HWF.out m.length (by rw[h1,List.length_append,List.length_singleton];omega)).id
    have e:l[m.length]'(by rw[h1,List.length_append,List.length_singleton];omega)=⟨o0,o1,o2,o3,o4,o5,o6,o7,o8,o9,o10,o11⟩:=by
     subst h1
     rw[List.getElem_append_right (Nat.le_refl _)]
     simp
    rw[e] at h2
    exact h2)
   have KN1:=Lib.hid (KN.out o0)
   have KAD1:=Lib.hid (KAD.out o0 HWO.out HF.out.2)
   have KCL1:=Lib.hid (fun W g=>KCL.out W g HF.out.2)
   have HLAW:=Lib.hid (show(admR l (nextW l o0)).2.2=0→o2≠6∧treeR (admR l (nextW l o0)).1=((replayF m).1,0)∧treeR m=((replayF m).1,0) from fun h=>by
    have h1:=HMO.out
    rw[h1] at h ⊢
    exact last_law m ⟨o0,o1,o2,o3,o4,o5,o6,o7,o8,o9,o10,o11⟩ h)
   have hall:(admR l (nextW l o0)).2.2=0→(∀ x∈(admR l (nextW l o0)).1,WfO x)∧(admR l (nextW l o0)).1.length≤1000000:=fun h=>by
    rw[(adm_of h).2.2.1]
    refine⟨fun x hx=>?_,by have:=HF.out.2;simp only [List.length_append,List.length_singleton];omega⟩
    rcases List.mem_append.1 hx with hx|hx
    ·obtain⟨j,hj,e⟩:=List.mem_iff_getElem.1 hx
     rw[← e]
     exact HWF.out j hj
    ·rw[List.mem_singleton.1 hx]
     exact nextW_wf l o0 HWO.out
   have KT:=Lib.hid (fun(h:(admR l (nextW l o0)).2.2=0) v W (g:Grew w W) hs=>uTree (admR l (nextW l o0)).1 (fun i hi=>(hall h).1 _ (List.getElem_mem hi)) v W (HE.out.mono g) hs (hall h).2)
   clear hall
   unfold RetTr at KT
   generalize nextW l o0=NX at KN1 KAD1 HLAW KT
   obtain⟨n0,n1,n2,n3,n4,n5,n6,n7,n8,n9,n10,n11⟩:=NX
   unfold Opn.agg at KN1 KAD1
   dsimp only at KN1 KAD1
   unfold RetAd at KAD1
   rw[HK.out] at KN1 KCL1
   generalize hAR:admR l ⟨n0,n1,n2,n3,n4,n5,n6,n7,n8,n9,n10,n11⟩=AR at KAD1 HLAW KT
   clear KN KAD KCL
   have b0:wd.cell? ⟨T3,0,none⟩=some (.int .i64 o0):=cellOf HX0.out rfl
   go_cut [4,5,6] from 30 to 40 (fun s4 s5 s6 wx=>AdCut wd AR s4 s5 s6 wx)
   case first =>
    have HSS:=Lib.hid (fun W (g:Grew wd W)=>(⟨keep_cell g b0,g⟩:W.cell? ⟨T3,0,none⟩=some (.int .i64 o0)∧Grew wd W))
    go_region_held3 (fun W=>W.cell? ⟨T3,0,none⟩=some (.int .i64 o0)∧Grew wd W) (refine HSS.out _ (by repeat (with_reducible first|exact Grew.refl _|exact GQ3.out|exact GQ2.out|exact GQ1.out|refine Grew.drew ?_|refine Grew.alloc ?_ _))) (first|(go_at_call 15;(with_reducible refine(KCL1.out _ (HGD.out.trans (by repeat (with_reducible first|exact Grew.refl _|exact GQ3.out|exact GQ2.out|exact GQ1.out|refine Grew.drew ?_|refine Grew.alloc ?_ _)))).mono ?_);rintro e w5 ⟨v5,rfl,h5,gq⟩;obtain⟨A5,c5,rfl⟩:=own_slice h5;first|(have GX:=Lib.hid (show Grew w6 w5 from Grew.trans (by repeat (with_reducible first|exact Grew.refl _|refine Grew.drew ?_|refine Grew.alloc ?_ _)) gq);have GQ2:=Lib.hid (GQ1.out.trans GX.out))|(have GQ1:=Lib.hid (show Grew wd w5 from Grew.trans (by repeat (with_reducible first|exact Grew.refl _|refine Grew.drew ?_|refine Grew.alloc ?_ _)) gq));have HLS:=Lib.hid (show SlO w5 _ l from Rd.of_own h5);clear h5 gq)|(go_at_call 34;(with_reducible refine(KN1.out _ (HGD.out.trans (by repeat (with_reducible first|exact Grew.refl _|exact GQ3.out|exact GQ2.out|exact GQ1.out|refine Grew.drew ?_|refine Grew.alloc ?_ _)))).mono ?_);rintro e w6 ⟨rfl,gq⟩;first|(have GX:=Lib.hid (show Grew w5 w6 from Grew.trans (by repeat (with_reducible first|exact Grew.refl _|refine Grew.drew ?_|refine Grew.alloc ?_ _)) gq);have GQ2:=Lib.hid (GQ1.out.trans GX.out);have HLS2:=Lib.hid (HLS.out.mono GX.out))|(have GQ1:=Lib.hid (show Grew wd w6 from Grew.trans (by repeat (with_reducible first|exact Grew.refl _|refine Grew.drew ?_|refine Grew.alloc ?_ _)) gq));clear gq)|(go_at_call 17;(with_reducible refine(KAD1.out _ _ (HGD.out.trans (GQ2.out.trans (by repeat (with_reducible first|exact Grew.refl _|refine Grew.drew ?_|refine Grew.alloc ?_ _)))) (by first|exact HLS2.out.mono (by repeat (with_reducible first|exact Grew.refl _|refine Grew.drew ?_|refine Grew.alloc ?_ _))|exact HLS.out.mono (by repeat (with_reducible first|exact Grew.refl _|refine Grew.drew ?_|refine Grew.alloc ?_ _)))).mono ?_);rintro e w7 ⟨v7,rfl,h7,gq⟩;have GQ3:=Lib.hid (GQ2.out.trans (Grew.trans (by repeat (with_reducible first|exact Grew.refl _|refine Grew.drew ?_|refine Grew.alloc ?_ _)) gq));obtain⟨A7,c7,hA7,-⟩:=h7.open_;subst hA7;have HO7:=Lib.hid h7;clear h7 gq))
    all_goals go_wp2_with fail
    all_goals go_meet
    all_goals exact ad_meet HO7.out GQ3.out
   case rest =>
    obtain⟨A4,c4',rfl,rfl,rfl,HL4,GC⟩:=hcut
    have HG4:=Lib.hid (HGD.out.trans GC.out)
    have HX4:=Lib.hid (heapKeep GC.out HX0.out)
    have HAR:=Lib.hid hAR
    have HSL:=Lib.hid HL4.out
    clear b0 GC HL4 hAR KN1 KAD1 KCL1
    obtain⟨m2,i2,e2⟩:=AR
    dsimp only at HSL ⊢
    by_cases hn:e2=0
    case neg =>
     have hbn:(e2 != 0)=true:=by simpa using hn
     have he:m2=[]:=by
      have h1:=HAR.out
      have h2:=adm_no (l:=l) (o:=⟨n0,n1,n2,n3,n4,n5,n6,n7,n8,n9,n10,n11⟩) (by rw[h1];exact hn)
      rw[h1] at h2
      exact h2
     subst he
     clear hn
     go_wp2
     go_ret
     exact⟨rfl,HG4.out⟩
    case pos =>
     subst hn
     have hbn:((0:Int) != 0)=false:=rfl
     obtain⟨ho2,ht1,ht2⟩:=HLAW.out rfl
     have HO2:=Lib.hid ho2
     have HT2:=Lib.hid ht2
     have KT1:=Lib.hid (KT.out rfl)
     clear HLAW KT ho2 ht2
     dsimp only at KT1
     rw[ht1] at KT1
     clear ht1
     go_wp2_with fail
     refine(KT1.out _ _ HG4.out HSL.out).mono ?_
     rintro e w8 ⟨rv,bv,rfl,ht,g8⟩
     obtain⟨RA,ra,hRA,-⟩:=SlI.open_ (v:=rv) (tr_i ht)
     subst hRA
     obtain⟨RB,rb,hRB,-⟩:=SlBr.open_ (v:=bv) (tr_br ht)
     subst hRB
     have HX8:=Lib.hid (heapKeep g8 HX4.out)
     have HG8:=Lib.hid (HG4.out.trans g8)
     have HT8:=Lib.hid ht
     clear ht g8 KT1
     have HCM:=Lib.hid (fun W (g:Grew w W)=>cloneO m (.slice (some ⟨b,off,none⟩) m.length c) W (by
      have h1:=HV.out
      have h2:=HMO.out
      rw[h2] at h1
      exact(SlO.init h1).mono g) (by
      have h1:=HF.out.2
      have h2:=HMO.out
      rw[h2,List.length_append,List.length_singleton] at h1
      omega))
     have hkm:m.length=k:=by
      have h1:=HK.out
      have h2:=HMO.out
      rw[h2,List.length_append,List.length_singleton] at h1
      omega
     rw[hkm] at HCM
     have HKM:=Lib.hid hkm
     have hkc:k≤c:=by omega
     clear hkm
     dsimp only
     have HBE:=Lib.hid (heapNew w8 (.cells #[.slice RA (replayF m).1.roots.length ra,.slice RB (replayF m).1.brs.length rb] 43))
     have HGE:=Lib.hid (HG8.out.alloc (.cells #[.slice RA (replayF m).1.roots.length ra,.slice RB (replayF m).1.brs.length rb] 43))
     have HXE:=Lib.hid (heapKeep ((Grew.refl w8).alloc (.cells #[.slice RA (replayF m).1.roots.length ra,.slice RB (replayF m).1.brs.length rb] 43)) HX8.out)
     have HTE:=Lib.hid (HT8.out.mono ((Grew.refl w8).alloc (.cells #[.slice RA (replayF m).1.roots.length ra,.slice RB (replayF m).1.brs.length rb] 43)))
     go_wp2_with fail
     generalize w8.alloc (.cells #[.slice RA (replayF m).1.roots.length ra,.slice RB (replayF m).1.brs.length rb] 43)=wE at *
     generalize w8.heap.size=TE at *
     refine(HCM.out _ HGE.out).mono ?_
     rintro e w9 ⟨v9,rfl,ho9,g9⟩
     have KTM:=Lib.hid (uTree m (fun i hi=>by
      have h2:=HMO.out
      have h3:m[i]∈l:=by rw[h2];exact List.mem_append_left _ (List.getElem_mem hi)
      obtain⟨j,hj,e⟩:=List.mem_iff_getElem.1 h3
      rw[← e]
      exact HWF.out j hj) v9 w9 (HE.out.mono (HGE.out.trans g9)) (Rd.of_own ho9) (by
      have h1:=HF.out.2
      have h2:=HMO.out
      rw[h2,List.length_append,List.length_singleton] at h1
      omega))
     rw[HT2.out] at KTM
     unfold RetTr at KTM
     dsimp only at KTM
     have HG9:=Lib.hid (HGE.out.trans g9)
     have HB9:=Lib.hid (heapKeep g9 HBE.out)
     have HX9:=Lib.hid (heapKeep g9 HXE.out)
     have HT9:=Lib.hid (HTE.out.mono g9)
     clear ho9 g9
     dsimp only
     go_wp2_with fail
     refine KTM.out.mono ?_
     rintro e wF ⟨rv2,bv2,rfl,ht,g10⟩
     obtain⟨RC,rc,hRC,-⟩:=SlI.open_ (v:=rv2) (tr_i ht)
     subst hRC
     obtain⟨RD,rd,hRD,-⟩:=SlBr.open_ (v:=bv2) (tr_br ht)
     subst hRD
     have gX:=(Grew.refl wF).alloc (.cells #[.slice RC (replayF m).1.roots.length rc,.slice RD (replayF m).1.brs.length rd] 43)
     have HBG:=Lib.hid (heapNew wF (.cells #[.slice RC (replayF m).1.roots.length rc,.slice RD (replayF m).1.brs.length rd] 43))
     have HG11:=Lib.hid ((HG9.out.trans g10).alloc (.cells #[.slice RC (replayF m).1.roots.length rc,.slice RD (replayF m).1.brs.length rd] 43))
     have HB11:=Lib.hid (heapKeep (g10.trans gX) HB9.out)
     have HX11:=Lib.hid (heapKeep (g10.trans gX) HX9.out)
     have HS:=Lib.hid (same19 (replayF m).1 _ _ _ _ _ (HT9.out.mono (g10.trans gX)) (ht.mono gX))
     clear gX ht g10 KTM
     obtain⟨wH,hwH⟩:∃ wH,wF.alloc (.cells #[.slice RC (replayF m).1.roots.length rc,.slice RD (replayF m).1.brs.length rd] 43)=wH:=⟨_,rfl⟩
     rw[hwH] at HBG HG11 HB11 HX11 HS
     have a0:wH.cell? ⟨TE,0,none⟩=some (.slice RA (replayF m).1.roots.length ra):=cellOf HB11.out rfl
     have a1:wH.cell? ⟨TE,1,none⟩=some (.slice RB (replayF m).1.brs.length rb):=cellOf HB11.out rfl
     have e0:wH.cell? ⟨wF.heap.size,0,none⟩=some (.slice RC (replayF m).1.roots.length rc):=cellOf HBG.out rfl
     have e1:wH.cell? ⟨wF.heap.size,1,none⟩=some (.slice RD (replayF m).1.brs.length rd):=cellOf HBG.out rfl
     have x2:wH.cell? ⟨T3,2,none⟩=some (.int .i64 o2):=cellOf HX11.out rfl
     have hk6:(o2 != 6)=true:=by simpa using HO2.out
     dsimp only
     go_wp2_with fail
     refine HS.out.mono ?_
     rintro e wz ⟨rfl,gz⟩
     have HGZ:=Lib.hid (HG11.out.trans gz)
     clear gz
     dsimp only
     go_wp2
     go_ret
     exact⟨rfl,HGZ.out⟩
end Go.Proofs.YtdochkemaiokfaaGreat
/- undo: Counts, walked. The conditions: the library's own variables hold what they must; the numbers are numbers of an int. -/
namespace Go.Proofs.YtdochkemaiokfaaGreat
open Go.RowKit Go.Shelf
attribute [local go_sem] Oper.semAt_some
theorem row_block {W:World} {N:Nat} {e:TypeId} {size:Nat} {v:Value} {n:Nat} {xs:List Value} (h:W.ownsRow N e size v n xs):∀ r,v.ownBlock=some r→N≤r∧∃ cs t fr,W.heap[r]? = some (.cells cs t fr):=by
 intro r hr
 rcases h.2 with ⟨rfl,-⟩|⟨g,cap,cur,rfl,hb,hgb,-⟩
 ·cases hr
 ·cases hr
  exact⟨hb,_,_,_,hgb⟩
theorem row_turn {W W':World} {N:Nat} {e:TypeId} {size:Nat} {v:Value} {n:Nat} {xs:List Value} {row:Option Nat} (h:W.ownsRow N e size v n xs) (hg:W.grownBy W' row) (hr:∀ r,row=some r→r<N∨∀ o,W.heap[r]? = some o→o.isCells=false):W'.ownsRow N e size v n xs:=by
 refine h.kept hg ?_
 cases hb:v.ownBlock with
 | none=>exact .inl rfl
 | some g =>
  refine .inr fun k=>?_
  obtain⟨h1,cs,t,fr,h2⟩:=row_block h g hb
  rcases hr g k.symm with h3|h3
  ·omega
  ·have:=h3 _ h2
   cases this
theorem KpS.row {n₀ B:Nat} {X:Nat→Prop} {W W':World} {row:Option Nat} (hn:n₀≤B) (hB:B≤W.heap.size) (hg:W.grownBy W' row) (hr:∀ r,row=some r→B≤r∧∃ cs t fr,W.heap[r]? = some (.cells cs t fr)):KpS n₀ B X W W':=by
 refine⟨(Below.refl n₀ W).grown hg (Nat.le_trans hn hB) (fun k e=>Nat.le_trans hn (hr k e).1),fun k o hk _ ho _=>?_,fun k es c ho=>?_⟩
 ·rw[hg.block k (by omega) (fun e=>by have:=(hr k e.symm).1;omega)]
  exact ho
 ·rw[hg.block k (Array.getElem?_eq_some_iff.1 ho).1 (fun e=>by
   obtain⟨-,cs,t,fr,h2⟩:=hr k e.symm
   rw[ho] at h2
   cases h2)]
  exact ho
theorem others_row {W W':World} {row:Option Nat} (hg:W.grownBy W' row) (hr:∀ r,row=some r→∃ cs t fr,W.heap[r]? = some (.cells cs t fr)):KeepsOthers W W' :=
 ⟨hg.size,fun k o ho hc=>by
  rw[hg.block k (Array.getElem?_eq_some_iff.1 ho).1 (fun e=>by
   obtain⟨cs,t,fr,h2⟩:=hr k e.symm
   rw[ho] at h2
   cases h2
   cases hc)]
  exact ho⟩
structure CtsI (w:World) (OB N:Nat) (xs:List Int) (W:World):Prop where
 g:Grew w W
 row:∃ v,Boxed W OB 38 v∧W.ownsRow N 3 1 v xs.length (xs.map (Value.int .i64))
theorem CtsI.turn {w W W':World} {OB N:Nat} {xs:List Int} {row:Option Nat} (h:CtsI w OB N xs W) (h1:w.heap.size≤OB) (h2:OB<N) (hg:W.grownBy W' row) (hr:∀ r,row=some r→N≤r∧∀ o,W.heap[r]? = some o→o.isCells=false):CtsI w OB N xs W':=by
 obtain⟨v,hb,ho⟩:=h.row
 exact⟨Below.grown h.g hg h.g.size (fun k e=>by have:=(hr k e).1;omega),v,heapTurn hg hb (fun r e=>by have:=(hr r e).1;omega),row_turn ho hg (fun r e=>.inr (hr r e).2)⟩
theorem CtsI.put {w W W1:World} {OB N:Nat} {xs:List Int} {x:Int} {v v':Value} {ob:Obj} (h:Grew w W) (hb:Boxed W OB 38 v) (ho:W.ownsRow N 3 1 v xs.length (xs.map (Value.int .i64))) (h1:w.heap.size≤OB) (h2:OB<N) (h3:N≤W.heap.size) (ho':W1.ownsRow N 3 1 v' (xs.length+1) (xs.map (Value.int .i64)++[Value.int .i64 x])) (hg:(W.alloc ob).grownBy W1 v.ownBlock) :
  Boxed W1 OB 38 v∧CtsI w OB N (xs++[x]) (W1.setCell ⟨OB,0,none⟩ v')∧KpS w.heap.size N (fun k=>k=OB) W (W1.setCell ⟨OB,0,none⟩ v')∧KeepsOthers W (W1.setCell ⟨OB,0,none⟩ v'):=by
 have ga:Grew W (W.alloc ob):=(Grew.refl W).alloc _
 have hs:=ga.size
 have hr:=row_block (own_later ho ga)
 have hb1:Boxed W1 OB 38 v:=heapTurn hg (heapKeep ga hb) (fun r e=>by have:=(hr r e).1;omega)
 have g1:Grew w W1:=Below.grown (h.trans ga) hg (h.trans ga).size (fun k e=>by have:=(hr k e).1;omega)
 refine⟨hb1,⟨g1.setCell (p:=⟨OB,0,none⟩) h1 _,v',hb1.set _,?_⟩,?_,?_⟩
 ·rw[List.length_append,List.length_singleton,List.map_append,List.map_singleton]
  exact row_turn ho' (grownSetN W1 OB 0 v') (fun r e=>by cases e;exact .inl h2)
 ·exact((KpS.grew (by omega) ga).trans (KpS.row (by omega) (by omega) hg hr)).trans (KpS.set _ h1 (.inl rfl) ⟨_,_,_,hb1⟩)
 ·exact((keepsG ga).trans (others_row hg (fun r e=>(hr r e).2))).trans (KeepsOthers.setCell _ _ _)
theorem oneI_map (l:List Int):l.map (Value.int .i64)=l.flatMap oneI:=by
 induction l with
 | nil=>rfl
 | cons a r ih=>rw[List.map_cons,List.flatMap_cons,ih];rfl
noncomputable def countsR (l:List Opn):List Int × Int:=if (keepF l).2.2=0 then((countI l).map fun p=>p.2.id,0) else([],1)
def RetNs (R:List Int × Int) (w:World) (e:Ending) (w':World):Prop:=∃ v,e=.returned (.tuple #[v,.int .i64 R.2])∧SlI w' v R.1∧Grew w w'
def CtsA (lv:Value) (i:Int) (OB LB:Nat) (x:Int × Opn) (a:Act) (W:World):Prop:=∃ XB,a={ tmps:=#[lv,undef,.slice none 0 0,.int .i64 0,.int .i64 i,.int .i64 0,.pointer (some ⟨OB,0,none⟩),undef,.pointer (some ⟨XB,0,none⟩),.tuple #[.int .i64 i,.int .i64 0],lv,.tuple #[.int .i64 i,.int .i64 0],.int .i64 i,.int .i64 0,.int .i64 0,.bool false,lv,.func (.func 69) #[] #[.pointer (some ⟨LB,0,none⟩)],.int .i64 x.1,x.2.agg,undef,undef,undef,undef,undef,undef],defers:=[] } ∧
 W.heap[XB]? = some (.cells x.2.cells.toArray 26 (0,0))
theorem count_len (l:List Opn):(countI l).length≤l.length:=by
 rw[countI_idx]
 exact Nat.le_trans (List.length_filter_le _ _) (by simp[idxL])
set_option maxHeartbeats 8000000 in
set_option maxRecDepth 100000 in
theorem uCountsX (l:List Opn) (hwf:∀ i (h:i<l.length),WfO l[i]) (lv:Value) (w:World) (hE:Env w) (hv:SlO w lv l) (hlen:l.length≤1000000):Calls Tryz.prog 20 #[lv] w (RetNs (countsR l) w):=by
 have K:=uCheck l hwf lv w hE hv hlen
 have KC:=Lib.hid (fun A n c W=>uCounting A n c W)
 have KS:=Lib.hid (fun X B LB n W a b c d=>countStops l hwf lv w hv hlen X B LB n a b W c d)
 have HCL:=Lib.hid (Nat.le_trans (count_len l) hlen)
 obtain⟨A,c,rfl,-⟩:=hv.open_
 obtain⟨i0,hi,hz0,hz1,hz2⟩:=info_parts infoI
 have HR0:countsR l=if (keepF l).2.2=0 then((countI l).map fun p=>p.2.id,0) else([],1):=rfl
 unfold RetCk at K
 generalize countsR l=RES at HR0 ⊢
 generalize countI l=CI at KS HR0 HCL
 generalize (keepF l).2=R at K HR0
 obtain⟨i,n0⟩:=R
 dsimp only at K HR0
 have HQ0:=Lib.hid HR0
 clear HR0 hv hwf hE
 refine(callsIn_wide (n:=9)).1 ?_
 refine callsIn_of_wp_marks Tryz.func20 rfl trivial ?_ rfl
 simp only [Tryz.ntmps20,List.size_toArray,List.length_cons,List.length_nil,Nat.reduceAdd,Nat.reduceSub,Array.replicate_succ,Array.replicate_zero,List.push_toArray,List.append_toArray,List.nil_append,List.cons_append]
 refine wpIn_wide.2 ?_
 go_wp2_with fail
 refine K.mono ?_
 rintro e w2 ⟨rfl,g⟩
 have HG:=Lib.hid g
 clear g K
 dsimp only
 by_cases hn:n0=0
 case neg =>
  have hbn:(n0 != 0)=true:=by simpa using hn
  obtain rfl:=HQ0.out.trans (if_neg hn)
  clear HQ0 hn
  go_wp2
  exact⟨.tuple #[.slice none 0 0,.int .i64 1],by simp[results,Tryz.results20,go_sem],_,rfl,SlI.nil _,HG.out⟩
 case pos =>
  subst hn
  have hbn:((0:Int) != 0)=false:=rfl
  obtain rfl:=HQ0.out.trans (if_pos rfl)
  clear HQ0
  go_wp2_with fail
  refine(KC.out _ _ _ _).mono ?_
  rintro e wl ⟨rfl,hwl⟩
  dsimp only
  go_wp2_with fail
  refine(wpIn_wide (n:=9)).1 ?_
  have hI0:CtsI w w2.heap.size (w2.heap.size+1+1) [] wl:=by
   have e0:=heapNew w2 (.cells #[.slice none 0 0] 38)
   have g2:Grew (w2.alloc (.cells #[.slice none 0 0] 38)) wl:=by rw[← hwl];exact(Grew.refl _).alloc _
   exact⟨(HG.out.alloc _).trans g2,_,heapKeep g2 e0,World.ownsRow_nil _ _ _ _⟩
  have hsz:wl.heap.size=w2.heap.size+1+1:=by rw[← hwl];simp only [World.size_alloc]
  have hLx:Boxed wl (w2.heap.size+1) 22 (.slice A l.length c):=by
   have:=Boxed.new (w2.alloc (.cells #[.slice none 0 0] 38)) 22 (.slice A l.length c)
   rw[hwl] at this
   simpa only [World.size_alloc] using this
  simp only [World.size_alloc]
  clear hwl
  have hlo:=HG.out.size
  rw[← hsz] at hI0
  have hst:=KS.out (fun k=>k=w2.heap.size) wl.heap.size (w2.heap.size+1) 8 wl (by omega) (by omega) hI0.g hLx
  have HB1:=Lib.hid (show w2.heap.size<wl.heap.size by omega)
  clear hsz
  generalize w2.heap.size+1=LB at hst hLx ⊢
  generalize w2.heap.size=OB at hI0 hst HB1 hlo ⊢
  have HI0:=Lib.hid hI0
  have HLO:=Lib.hid hlo
  have HN:=Lib.hid (show w.heap.size≤wl.heap.size from hI0.g.size)
  clear hI0 hlo hLx KS KC HG
  refine wpIn_rangeS rfl (by omega) (gf:=69) (lb:=#[.pointer (some ⟨LB,0,none⟩)]) rfl trivial (enters_of Tryz.func69 (by kernel_rfl) rfl) HN.out hst (fun _=>rfl)
   (fun pre W=>wl.heap.size≤W.heap.size∧CtsI w OB wl.heap.size (pre.map fun(p:Int × Opn)=>p.2.id) W)
   (fun _ _ _=>False)
   (fun _ _ _ _ hs hg hr=>⟨Nat.le_trans hs.1 hg.size,hs.2.turn HLO.out HB1.out hg hr⟩)
   (fun _ _ _ _ _ hs _ _=>hs)
   ⟨Nat.le_refl _,HI0.out⟩
   (CtsA (.slice A l.length c) i OB LB)
   (fun x a' _ W W' row h hg hr=>by
    obtain⟨XB,h1,h2⟩:=h
    exact⟨XB,h1,heapTurn hg h2 (fun r e k=>by have:=(hr r e).2 _ (by rw[k];exact h2);cases this)⟩)
   ?assign ?body ?done ?stop
  case assign =>
   rintro ll ⟨xi,⟨o0,o1,o2,o3,o4,o5,o6,o7,o8,o9,o10,o11⟩⟩ W K hs hK
   dsimp only [Opn.agg]
   gi_wp2
   exact hK _ _ ((Grew.refl W).alloc _) ⟨W.heap.size,rfl,heapNew _ _⟩
  case body =>
   rintro ll pre ⟨xi,o⟩ a' W ⟨hsz,hB⟩ ⟨XB,rfl,hO⟩ hSp
   obtain⟨v,hv,hrow⟩:=hB.row
   have hg:=hB.g
   have hpl:pre.length<1000000:=by
    obtain⟨suf,hS⟩:=hSp
    have:=congrArg List.length hS
    simp only [List.length_append,List.length_singleton] at this
    have:=HCL.out
    omega
   have hpl2:(pre.map fun(p:Int × Opn)=>p.2.id).length<1000000:=by rw[List.length_map];exact hpl
   obtain⟨ys,hys⟩:∃ ys,(pre.map fun(p:Int × Opn)=>p.2.id)=ys:=⟨_,rfl⟩
   rw[hys] at hrow hpl2
   have HYS:=Lib.hid hys
   obtain⟨Av,cv,rfl⟩:=own_slice hrow
   have hc:=hv.cell
   have hf:=hv.frozen
   obtain⟨o0,o1,o2,o3,o4,o5,o6,o7,o8,o9,o10,o11⟩:=o
   have q0:W.cell? ⟨XB,0,none⟩=some (.int .i64 o0):=cellOf hO rfl
   dsimp only [Opn.agg]
   clear hB hO hst HI0 hSp hys
   gi_wp2_with (gi_at_builtin;refine wpListIn_append_own _ rfl _ _ 38 rfl wl.heap.size 3 i0 (.int .i64 0) 1 8 Tryz.underlying38 hi hz0 hz1 hz2 rfl (by decide) _ _ _ rfl (hrow.alloc _) ⟨W.heap.size,0,none⟩ 1 1 [Value.int .i64 o0] rfl rfl (cell_one_new _ _ _) (by simp[Value.oneCell']) (by unfold maxLen;omega) (by omega) (by simp;omega) ?_;intro v' w1 hown' hgrow _;obtain⟨A3,c3,rfl⟩:=own_slice hown';obtain⟨hv1,hI,hk,hoth⟩:=CtsI.put hg hv hrow HLO.out HB1.out hsz hown' hgrow;have hc1:=hv1.cell;have hf1:=hv1.frozen)
   exact⟨hoth,hk,Nat.le_trans hsz hk.below.size,by rw[List.map_append,HYS.out];exact hI⟩
  case done =>
   rintro D xs W hD rfl ⟨hsz,hB⟩ hK
   obtain⟨v,hv,hrow⟩:=hB.row
   obtain⟨Av,cv,rfl⟩:=own_slice hrow
   have hc:=hv.cell
   have HG4:=Lib.hid (hB.turn HLO.out HB1.out (grownBy_putObj' _ D (.deferred none)) (fun r e=>by cases e;exact⟨hD,fun o ho=>by rw[hK] at ho;cases ho;rfl⟩)).g
   have HROW:=Lib.hid (Rd.of_own (row_turn hrow (grownBy_putObj' _ D (.deferred none)) (fun r e=>by cases e;exact .inr (fun o ho=>by rw[hK] at ho;cases ho;rfl))))
   have HK:=Lib.hid hK
   clear hB hK hst HI0 hrow hv
   go_wp2
   refine⟨by simp,.inl ⟨_,_,rfl,run_takeDeferred HK.out,?_⟩⟩
   refine⟨.tuple #[.slice Av xs.length cv,.int .i64 0],by simp[results,Tryz.results20,go_sem],_,rfl,?_,HG4.out⟩
   have h:=HROW.out
   rw[List.length_map,oneI_map] at h
   exact h
  case stop =>
   rintro D c pre W _ _ h _
   exact h.elim
end Go.Proofs.YtdochkemaiokfaaGreat
/- slices.SortFunc at the ledger, by marks, on a row of the call's own. No condition but the sizes that a slice can have. -/
namespace Go.Proofs.YtdochkemaiokfaaGreat
open Go.RowKit Go.Sort Go.Lib
def ltM (a b:Mk):Prop:=mkLt a.mark b.mark
def cfM (a b:Mk):Int:=compareBytes a.mark.data.toList b.mark.data.toList
theorem ltM_asym (a b:Mk) (h:ltM a b):¬ ltM b a:=fun k=>mkLt_irr (mkLt_trans h k)
theorem cfM_lt (x y:Mk):ltOf cfM x y=true↔ltM x y:=by
 unfold ltOf cfM ltM mkLt
 rcases cbo_three x.mark.data.toList y.mark.data.toList with h|h|h<;>rw[h]<;>simp
theorem cfM_no (x y:Mk):ltOf cfM x y=false↔¬ ltM x y:=by
 rw[← cfM_lt];simp
theorem cfM_swo:SWO (ltOf cfM):=by
 refine⟨fun x=>?_,fun x y z h1 h2=>?_,fun x y z h1 h2=>?_⟩
 ·rw[cfM_no];exact mkLt_irr
 ·rw[cfM_lt] at h1 h2 ⊢;exact mkLt_trans h1 h2
 ·rw[cfM_no] at h1 h2 ⊢;exact mkLt_no h1 h2
set_option maxHeartbeats 1000000 in
theorem cmpM1 (x y:Mk) (W:World):Calls Tryz.prog 55 #[x.agg,y.agg] W fun e w'=>e=.returned (.int .i64 (cfM x y))∧∃ q os',w'=grow (W.drewN q) os':=by
 have K:=Lib.hid (fun W=>Tryz.strings_Compare x.mark y.mark W)
 unfold cfM
 obtain⟨xm,xu⟩:=x
 obtain⟨ym,yu⟩:=y
 unfold Mk.agg
 dsimp only at K ⊢
 generalize compareBytes xm.data.toList ym.data.toList=q at K ⊢
 go_enter Tryz.func55,Tryz.ntmps55
 go_wp2_with fail
 refine(K.out _).mono ?_
 rintro e w1 ⟨rfl,rfl⟩
 dsimp only
 go_wp2
 go_ret
 exact⟨rfl,0,_,by rw[alloc_eq_grow,alloc_eq_grow,grow_grow];rfl⟩
theorem enters_cmpM1:∀ args w,(callFunc 55 args).run Tryz.prog w=.ok (.enter 55 args) w:=enters_of Tryz.func55 (by kernel_rfl) rfl
theorem cmpM_lays (blk off size:Nat) (w:World):CmpLays Tryz.prog 55 #[] Mk.cells 2 cfM blk off size w:=fun _ _ _ _ x y=>by
 have:=cmpM1 x y
 unfold Mk.agg at this
 exact this _
theorem sortM_own (l m:List Mk) (h0:0<l.length) (hm:l.Perm m) (hs:m.Pairwise ltM) (w0:World) (v:Value) (w:World) (hown:w.ownsRow w0.heap.size 62 2 v l.length (l.flatMap Mk.cells)) (hg:Grew w0 w) (hl:l.length≤1000000) :
  Calls Tryz.prog 54 #[v,.func (.func 55) #[] #[]] w fun en w'=>en=.returned (.tuple #[])∧w'.ownsRow w0.heap.size 62 2 v m.length (m.flatMap Mk.cells)∧Grew w0 w':=by
 have hfl:=flatMap_len Mk.cells 2 (fun _=>rfl) l
 have hfm:=flatMap_len Mk.cells 2 (fun _=>rfl) m
 have hlm:l.length=m.length:=hm.length_eq
 have hH0:=hown
 rcases hown.2 with ⟨_,hz⟩|⟨g,cap,cur,rfl,hbg,hh,h1,h2,h3,h4⟩
 ·omega
 have hlt:g<w.heap.size:=(Array.getElem?_eq_some_iff.1 hh).1
 have hH:HoldsK Mk.cells 2 w g 0 l.toArray:=by
  intro j hj
  rw[flat_rowK (f:=Mk.cells) (k:=2) (by omega) (fun _=>rfl)] at hj ⊢
  have hj':j<(l.flatMap Mk.cells).length:=by simpa using hj
  rw[Nat.zero_add]
  refine⟨?_,hH0.frozenAt j⟩
  rw[hH0.cellAt j (by omega),List.getElem?_eq_getElem hj',getElem!_pos _ j hj]
  simp
 refine(Tryz.slices_SortFuncM Mk.cells (fun _=>rfl) (fun x u hu=>by simp[Mk.cells] at hu;rcases hu with rfl|rfl<;>rfl) cfM cfM_swo 55 #[] g 0 cap l.toArray w enters_cmpM1 (cmpM_lays _ _ _ _) hH hlt (by simp;omega)).mono ?_
 rintro en w' ⟨rfl,d',n,os,hp,ho,rfl⟩
 have hd:d'=m.toArray:=Array.toList_inj.1 (by rw[sorted_one ltM_asym cfM_lt hm hs hp ho])
 subst hd
 unfold sortWorldK putRowK
 rw[flat_rowK (f:=Mk.cells) (k:=2) (by omega) (fun _=>rfl)]
 refine⟨rfl,⟨by rw[hfm],.inr ⟨g,cap,_,by rw[hlm],hbg,heap_sortId _ hh,by omega,h2,by simp[putCells,h3],?_⟩⟩,?_⟩
 ·have:=take_sortId cur (m.flatMap Mk.cells) (by rw[hfm,h3];omega)
  rw[hfm] at this
  exact this
 ·exact Below.grown hg (grownBy_sortId _) hg.size (fun k e=>by cases e;exact hbg)
end Go.Proofs.YtdochkemaiokfaaGreat
/- undo: Ledger, walked. The conditions: the library's own variables hold what they must; the numbers are numbers of an int. -/
namespace Go.Proofs.YtdochkemaiokfaaGreat
open Go.RowKit Go.Maps
set_option maxRecDepth 100000 in
theorem keyT_inv {v:Value} {kl:Lit} (h:keyOf Tryz.prog 9 v=some kl):∃ m,v=.string m∧kl=kT m∧m.size≤maxLen:=by
 obtain⟨s,rfl⟩:=Maps.keyOf_string_inv Tryz.underlying9 h
 have hs:s.size≤maxLen:=by
  by_cases hs:s.size≤maxLen
  ·exact hs
  ·exfalso
   unfold keyOf at h
   rw[Tryz.underlying9] at h
   simp[mapKey,Tryz.underlying9,hs] at h
 refine⟨s,rfl,?_,hs⟩
 rw[keyT s hs] at h
 exact(Option.some.inj h).symm
theorem ins_ex (x:Mk):∀ m:List Mk,m.Pairwise ltM→(∀ y∈m,y.mark≠x.mark)→∃ m',(x::m).Perm m'∧m'.Pairwise ltM
 | [],_,_=>⟨[x],.refl _,List.pairwise_singleton _ _⟩
 | y::r,h,hn=>by
  have h2:=List.pairwise_cons.1 h
  rcases mkLt_tri x.mark y.mark with h1|h1|h1
  ·exact⟨x::y::r,.refl _,List.pairwise_cons.2 ⟨fun z hz=>by
    rcases List.mem_cons.1 hz with rfl|hz
    ·exact h1
    ·exact mkLt_trans h1 (h2.1 z hz),h⟩⟩
  ·exact absurd h1.symm (hn y List.mem_cons_self)
  ·obtain⟨m',hp,hs⟩:=ins_ex x r h2.2 (fun z hz=>hn z (List.mem_cons_of_mem _ hz))
   exact⟨y::m',(List.Perm.swap y x r).trans (hp.cons y),List.pairwise_cons.2 ⟨fun z hz=>by
    rcases List.mem_cons.1 (hp.symm.subset hz) with rfl|hz
    ·exact h1
    ·exact h2.1 z hz,hs⟩⟩
theorem sort_ex:∀ ks:List Mk,(ks.map Mk.mark).Nodup→∃ m,ks.Perm m∧m.Pairwise ltM
 | [],_=>⟨[],.refl _,List.Pairwise.nil⟩
 | x::r,h=>by
  rw[List.map_cons,List.nodup_cons] at h
  obtain⟨m,hp,hs⟩:=sort_ex r h.2
  obtain⟨m',hp',hs'⟩:=ins_ex x m hs (fun y hy e=>h.1 (by rw[← e];exact List.mem_map.2 ⟨y,hp.symm.subset hy,rfl⟩))
  exact⟨m',(hp.cons x).trans hp',hs'⟩
def CollM (D0:DataW Unit) (left:Lit→Bool) (ks:List Mk):Prop:=(ks.map Mk.mark).Nodup∧∀ x:Mk,x∈ks↔(has D0 (kT x.mark)=true∧left (kT x.mark)=false∧D0.atKey (kT x.mark) (.lit (.int .i64 0))=.lit (.int .i64 x.unit))
theorem CollM.start (D0:DataW Unit):CollM D0 (has D0) []:=⟨List.nodup_nil,fun x=>by cases has D0 (kT x.mark)<;>simp⟩
theorem sameT (a b:ByteArray):(kT a).sameKey (kT b)=true↔a=b:=by
 constructor
 ·intro h
  refine kT_inj ?_
  unfold kT at h ⊢
  simpa [Lit.sameKey] using h
 ·rintro rfl
  simp[kT,Lit.sameKey]
theorem CollM.step {D0:DataW Unit} {left:Lit→Bool} {ks:List Mk} (h:CollM D0 left ks) {m:ByteArray} {c:Int} (hlk:left (kT m)=true) (hat:∀ zd,D0.atKey (kT m) zd=.lit (.int .i64 c)):CollM D0 (fun z=>left z && !z.sameKey (kT m)) (ks++[⟨m,c⟩]):=by
 have hhas:has D0 (kT m)=true:=has_true_of_atKey hat
 have hnew:∀ x∈ks,x.mark≠m:=fun x hx e=>by have:=((h.2 x).1 hx).2.1;rw[e,hlk] at this;cases this
 refine⟨?_,fun x=>?_⟩
 ·rw[List.map_append,List.map_singleton]
  refine List.nodup_append.2 ⟨h.1,by simp,fun a ha b hb=>?_⟩
  simp at hb
  subst hb
  obtain⟨x,hx,rfl⟩:=List.mem_map.1 ha
  exact hnew x hx
 ·by_cases hy:x.mark=m
  ·have hs:(kT x.mark).sameKey (kT m)=true:=(sameT _ _).2 hy
   constructor
   ·intro hx
    rcases List.mem_append.1 hx with hx|hx
    ·exact absurd hy (hnew x hx)
    ·have e:x=⟨m,c⟩:=by simpa using hx
     subst e
     exact⟨hhas,by simp[hs],hat _⟩
   ·rintro ⟨-,-,h3⟩
    rw[hy,hat] at h3
    obtain⟨xm,xu⟩:=x
    simp only [DataW.lit.injEq,Lit.int.injEq] at h3
    dsimp only at hy h3
    subst hy
    rw[← h3.2]
    simp
  ·have hs:(kT x.mark).sameKey (kT m)=false:=by
    cases hb:(kT x.mark).sameKey (kT m)
    ·rfl
    ·exact absurd ((sameT _ _).1 hb) hy
   have hne:x≠⟨m,c⟩:=fun e=>hy (by rw[e])
   rw[List.mem_append,List.mem_singleton,h.2 x]
   simp[hs,hne]
def LedgerOk (l:List Opn) (m:List Mk):Prop:=m.Pairwise ltM∧∀ x:Mk,x∈m↔ownerF l x.mark=some x.unit
theorem CollM.done {l:List Opn} {D:DataW Unit} (hD:OwnM l D) {left:Lit→Bool} {ks:List Mk} (h:CollM D left ks) (hl:∀ kl,left kl=false):∃ m,ks.Perm m∧LedgerOk l m:=by
 obtain⟨m,hp,hs⟩:=sort_ex ks h.1
 refine⟨m,hp,hs,fun x=>?_⟩
 rw[← hp.mem_iff,h.2 x,(hD x.mark).1,(hD x.mark).2]
 cases ho:ownerF l x.mark with
 | none=>simp
 | some u=>simp[hl]
def RetLg (l:List Opn) (w:World) (e:Ending) (w':World):Prop:=((keepF l).2.2≠0→e=.returned (.tuple #[.slice none 0 0,.int .i64 1]))∧((keepF l).2.2=0→∃ m v,LedgerOk l m∧e=.returned (.tuple #[v,.int .i64 0])∧SlM w' v m)∧Grew w w'
theorem cinfoM:(Tryz.prog.info? 62).map (fun i=>(i.zero,i.size,i.bytes))=some (some (.agg #[.string ⟨#[]⟩,.int .i64 0]),2,24):=by kernel_rfl
theorem cell_two_new (W:World) (a b:Value) (t:TypeId):∀ j u,[a,b][j]? = some u→(W.alloc (.cells #[a,b] t)).cell? ((⟨W.heap.size,0,none⟩:Addr).add j)=some u:=by
 intro j u h
 rw[add_lit]
 match j with
 | 0=>cases h;exact new_cell (Grew.refl _) 0 _ rfl
 | 1=>cases h;exact new_cell (Grew.refl _) 1 _ rfl
 | j+2=>simp at h
set_option maxHeartbeats 8000000 in
set_option maxRecDepth 100000 in
theorem uLedger (l:List Opn) (hwf:∀ i (h:i<l.length),WfO l[i]) (lv:Value) (w:World) (hE:Env w) (hv:SlO w lv l) (hlen:l.length≤1000000):Calls Tryz.prog 30 #[lv] w (RetLg l w):=by
 have K:=uKeep l hwf lv w hE hv hlen
 obtain⟨A,c,rfl,-⟩:=hv.open_
 obtain⟨i0,hi,hz0,hz1,hz2⟩:=info_parts cinfoM
 have HF1:=Lib.hid (fun(h:(keepF l).2.2≠0) W (g:Grew w W)=>(show RetLg l w (.returned (.tuple #[.slice none 0 0,.int .i64 1])) W from⟨fun _=>rfl,fun k=>absurd k h,g⟩))
 have HF2:=Lib.hid (fun(h:(keepF l).2.2=0) m v W (h1:LedgerOk l m) (h2:SlM W v m) (g:Grew w W)=>(show RetLg l w (.returned (.tuple #[v,.int .i64 0])) W from⟨fun k=>absurd h k,fun _=>⟨m,v,h1,rfl,h2⟩,g⟩))
 have KZ:=Lib.hid (fun(A:Option Addr) c fv W=>sort0M A c fv W)
 have HLN:=Lib.hid hlen
 unfold RetKp at K
 generalize keepF l=R at K HF1 HF2
 obtain⟨t0,i,n0⟩:=R
 dsimp only at K HF1 HF2
 clear hwf hE hv hlen
 go_enter Tryz.func30,Tryz.ntmps30
 go_wp2_with fail
 refine K.mono ?_
 rintro e w2 ⟨p,rfl,g,hk⟩
 have HG:=Lib.hid g
 clear g
 dsimp only
 by_cases hn:n0=0
 case neg =>
  have hbn:(n0 != 0)=true:=by simpa using hn
  have HP:=Lib.hid (HF1.out hn)
  clear hn hk HF1 HF2
  go_wp2
  refine bodyPost_ret (v:=.tuple #[.slice none 0 0,.int .i64 1]) (by simp[results,Tryz.results30,go_sem]) rfl ?_
  exact HP.out _ HG.out
 case pos =>
  subst hn
  have hbn:((0:Int) != 0)=false:=rfl
  have HP:=Lib.hid (HF2.out rfl)
  obtain⟨-,KB,MB,rfl,hK⟩:=hk rfl
  clear hk HF1 HF2
  obtain⟨E,k,A2,n,c2,B,m,d,C,q,hO,hV⟩:=hK.open_
  obtain⟨no,D,hom,hle,hon⟩:=hV.o
  obtain⟨-,-,-,-,xk4,-⟩:=hO.facts
  have hsz:=hom.size_le
  have HSZ:=Lib.hid (show Maps.size D≤1000000 from Nat.le_trans hsz (Nat.le_trans hle HLN.out))
  have HOM:=Lib.hid hom
  have HD:=Lib.hid (fun left ks (h:CollM D left ks) hl=>CollM.done hon h hl)
  clear hO hV hK hom hle hon hsz
  go_wp2_with (at_range;refine wpList_range_own _ rfl _ 79 rfl 9 3 keyedT Tryz.underlying79 _ MB no _ rfl HOM.out ?_;intro w0 hrg0 hg0 hs0)
  have HRG:=Lib.hid hrg0
  have HG0:=Lib.hid (show Grew w w0 from Below.grown HG.out hg0 HG.out.size (fun k hk=>by cases hk))
  have HS0:=Lib.hid (show w.heap.size≤w2.heap.size from HG.out.size)
  clear hrg0 hg0 hs0 xk4
  generalize w2.heap.size=r0 at HRG HS0 ⊢
  go_loopg [7] (Maps.size D) (fun gg s7 wx=>∃ left cnt ks,cnt≤gg∧Aside (wx.ranges Tryz.prog 9 (plainElem Tryz.prog 3) MB r0 no D left cnt)∧Aside (wx.ownsRow w.heap.size 62 2 s7 ks.length (ks.flatMap Mk.cells))∧Aside (CollM D left ks)∧ks.length+cnt≤Maps.size D∧Aside (Grew w wx))
  case atStart=>exact⟨_,_,[],Nat.le_refl _,HRG.out,(show Aside _ from World.ownsRow_nil _ _ _ _),(show Aside _ from CollM.start _),by simp,HG0.out⟩
  case round =>
   obtain⟨left,cnt,ks,hcg,RG,OR,CO,hcs,GX⟩:=hrel
   go_wp2_with (at_next;refine wpList_next_ranges _ rfl _ rfl 9 keyedT (plainElem Tryz.prog 3) Value.string (Value.int .i64) (fun key kl hk=>by obtain⟨x,hx,_⟩:=keyT_inv hk;exact⟨x,hx⟩) (fun v y hv=>by obtain⟨a,ha,_⟩:=plainElem_num Tryz.underlying3 hv;exact⟨a,ha⟩) MB r0 no _ _ _ rfl RG.out ?_ ?_)
   ·intro hc0 hl0
    obtain⟨mm,hpm,hlg⟩:=HD.out _ _ CO.out hl0
    have HLG:=Lib.hid hlg
    have HLM:=Lib.hid hpm.length_eq
    have h63:=HSZ.out
    obtain⟨A3,c3,rfl⟩:=own_slice OR.out
    by_cases h0:0<ks.length
    ·have KS:=Lib.hid (sortM_own ks mm h0 hpm hlg.1 w _ _ OR.out GX.out (by omega))
     clear hl0 hlg hpm
     go_wp2_with fail
     refine KS.out.mono ?_
     rintro e w4 ⟨rfl,hs4,g4⟩
     have HS4:=Lib.hid (show SlM w4 _ mm from Rd.of_own hs4)
     have HG4:=Lib.hid g4
     clear hs4 g4
     dsimp only
     go_wp2
     refine bodyPost_ret (v:=.tuple #[.slice A3 ks.length c3,.int .i64 0]) (by simp[results,Tryz.results30,go_sem]) rfl ?_
     exact HP.out _ _ _ HLG.out HS4.out HG4.out
    ·have hks:ks=[]:=List.eq_nil_of_length_eq_zero (by omega)
     subst hks
     have hmm:mm=[]:=List.eq_nil_of_length_eq_zero HLM.out.symm
     subst hmm
     have HS4:=Lib.hid (show SlM _ _ [] from Rd.of_own OR.out)
     clear hl0 hlg hpm h0
     go_wp2_with fail
     refine(KZ.out _ _ _ _).mono ?_
     rintro e w4 ⟨rfl,rfl⟩
     dsimp only
     go_wp2
     refine bodyPost_ret (v:=.tuple #[.slice A3 0 c3,.int .i64 0]) (by simp[results,Tryz.results30,go_sem]) rfl ?_
     exact HP.out _ _ _ HLG.out HS4.out GX.out
   ·intro x c' kl yd yp w3 cnt2 hkey hlk hv hat hrg2 hlt2 hg2 hs2 hen
    obtain⟨x',ex,rfl,_⟩:=keyT_inv hkey
    obtain rfl:x=x':=by injection ex
    obtain⟨a,ea,hy⟩:=plainElem_num Tryz.underlying3 hv
    obtain rfl:c'=a:=by injection ea
    simp only [Prod.mk.injEq] at hy
    obtain⟨rfl,rfl⟩:=hy
    have OR2:=Lib.hid (OR.out.kept hg2 (Or.inr (row_ne_iter OR.out RG.out).symm))
    have RG2:=Lib.hid hrg2
    have CO2:=Lib.hid (CO.out.step hlk hat)
    have GX2:=Lib.hid (grew_turned GX.out hg2 HS0.out)
    have h63:=HSZ.out
    have hm:ks.length+1≤1000000:=by omega
    clear hs2 hg2 hrg2 hat hlk hv hkey ex ea
    go_wp2_with (at_builtin;refine wpList_append_own _ rfl _ _ 53 rfl w.heap.size 62 i0 (.agg #[.string ⟨#[]⟩,.int .i64 0]) 2 24 Tryz.underlying53 hi hz0 hz1 hz2 rfl (by decide) _ _ _ rfl (OR2.out.alloc _) ⟨w3.heap.size,0,none⟩ 1 1 [.string x,.int .i64 c'] rfl rfl (cell_two_new _ _ _ _) (by simp[Value.oneCell']) (by unfold maxLen;omega) (by omega) (by have:=GX2.out.size;simp;omega) ?_;intro v' w4 hown' hg3 hnil3)
    have RG3:=Lib.hid ((RG2.out.alloc _).kept hg3 (row_ne_map OR2.out RG2.out.owns) (row_ne_iter OR2.out RG2.out))
    have GX3:=Lib.hid (show Grew w w4 from Below.grown (GX2.out.alloc _) hg3 (by have:=GX2.out.size;simp;omega) (fun k hk=>(OR2.out.lt k hk).1))
    have OR3:=Lib.hid hown'
    clear hown' hg3 hnil3
    go_roundg cnt2
    case measure=>omega
    case rel=>exact⟨_,cnt2,ks++[Mk.mk x c'],Nat.le_refl _,RG3.out,(show Aside _ from by rw[List.flatMap_append,List.length_append];exact OR3.out),(show Aside _ from CO2.out),by simp;omega,(show Aside _ from GX3.out)⟩
end Go.Proofs.YtdochkemaiokfaaGreat
/- The frame that every statement of this seat needs: what a call that returns true and leaves all older blocks alone gives for the row; the witness's world, in which the listed tables lie; what the library's own variables hold. No condition. -/
namespace Go.Proofs.YtdochkemaiokfaaGreat
open Go.ChangeShapes Go.WideShapes Go.ChangeAt Go.RowKit
theorem own:ownKnob Tryz.prog.godebug=none:=by kernel_rfl
theorem laidOut:laidOutB Tryz.prog=true:=by kernel_rfl
theorem trodAll_stays {H:Type} {enc:TypeId × Value→H} {P:Program} (hl:laidOutB P=true) {W W':World} (hb:Below W.heap.size W W'):∀ {ts:List TypeId} {vs:List Value} {ds:List (DataW H)} {ps:List MemPlace},
  (ts.all fun t=>P.readableRec t && decide (t<P.types.size))=true→DataW.TrodAll enc P W 0 (fun _=>true) true ts vs ds ps→(∀ x∈ps,x.block<W.heap.size)→DataW.TrodAll enc P W' 0 (fun b=>decide (b<W.heap.size)) true ts vs ds ps
 | [],_,_,_,_,h,_=>by
  obtain⟨rfl,rfl,rfl⟩:=trodAll_nil h
  exact trodAll_mk0
 | t::ts,_,_,_,hr,h,hlt=>by
  obtain⟨v,vs,d,ds,p,q,rfl,rfl,rfl,h1,h2⟩:=trodAll_cons h
  simp only [List.all_cons,Bool.and_eq_true,decide_eq_true_eq] at hr
  exact trodAll_cons_mk (Below.trod hl hr.1.1 hr.1.2 h1 hb fun x hx=>hlt x (List.mem_append_left _ hx)) (trodAll_stays hl hb (by simpa using hr.2) h2 fun x hx=>hlt x (List.mem_append_right _ hx))
theorem post_true {H:Type} {enc:TypeId × Value→H} {P:Program} (hl:laidOutB P=true) {f:Func} {s:ChangeSpec} {W W':World} {args:Array Value} {ds gs:List (DataW H)} {before:List MemPlace} {tb:TypeId}
  (hv:s.vars=[]) (hr:f.resultTypes=#[tb]) (hb:P.underlying tb=some .bool) (hp:(f.params.toList.all fun t=>P.readableRec t && decide (t<P.types.size))=true)
  (hW:DataW.Whole enc P f.params.toList s.vars false W args.toList ds gs before) (hfn:s.fn H ds={ results:=[.lit (.bool true)],args:=ds }) (hg:Below W.heap.size W W') :
  s.post enc P f false true false false W args (.bool true) W':=by
 have hlt:=hW.lt
 have hW':=hW
 obtain⟨p,q,hA,hV,rfl,_,_⟩:=hW
 have hV':=hV
 rw[hv] at hV'
 obtain⟨rfl,rfl⟩:=trodVars_none hV'
 simp only [List.append_nil] at hlt hW'
 refine⟨ds,[],p,[],p,[],hW',?_,?_,?_,hg.frame _,fun h=>by cases h⟩
 ·rw[hr,List.append_nil,hfn]
  exact trodAll_mk1 (shut_bool hb true)
 ·rw[List.append_nil,hfn]
  exact trodAll_stays hl hg hp hA hlt
 ·rw[List.append_nil,hfn,hv]
  rfl
noncomputable def base0R (os:Os):World:=World.holding Tryz.prog os ⟨#[],#[],[]⟩
noncomputable def worldLaid (os:Os):World :=
 { base0R os with heap:=(base0R os).heap }
theorem env_of {L:List (String × DataW Unit)} {W:World} (_h1:laidMetH Tryz.prog L W) (h2:W.ShapedOpen Tryz.prog):Env W :=
 ⟨cell_of_shapedOpen_int (g:=0) (t:=3) (zero:=#[.int .i64 0]) h2 (of_decide_eq_true (by kernel_rfl)) (by kernel_rfl) rfl (by kernel_rfl) (by kernel_rfl) Tryz.underlying3,
  fun g h=>by rw[show Tryz.prog.globalNamed "internal/strconv.uint64pow10" = none by kernel_rfl] at h;cases h⟩
end Go.Proofs.YtdochkemaiokfaaGreat
/- What the lists of authorities and relations, the relations and the trees that come in read as. No condition. -/
namespace Go.Proofs.YtdochkemaiokfaaGreat
open Go.ChangeShapes Go.WideShapes Go.ChangeAt Go.RowKit
theorem spot_none {w:World} {a:Addr} {u:Value} (h:w.cell? a=some u):a.spot=none:=by
 unfold World.cell? at h
 split at h
 ·split at h
  ·cases h
  ·rename_i hs
   cases hz:a.spot with
   | none=>rfl
   | some x=>rw[hz] at hs;simp at hs
 ·cases h
theorem open_in {α:Type} {H:Type} {enc:TypeId × Value→H} {P:Program} {W:World} {k n:Nat} {t e:TypeId} {cs:List Value} {x:DataW H × List MemPlace} (f:α→List Value) (Q:α→Prop) (hk:∀ x,(f x).length=k) (h0:0<k)
  (ht:P.underlying t=some (.slice e)) (hc:P.cellsOf e=k) (hel:∀ n cs x,DataW.trod enc P W 0 (fun _=>true) true n e cs=some x→∃ a,cs=f a∧Q a)
  (hf:DataW.trod enc P W 0 (fun _=>true) true n t cs=some x):∃ v,cs=[v]∧∃ l:List α,Rd W k v (l.flatMap f)∧∀ a∈l,Q a:=by
 rcases Go.Deep.open_slice ht hf with ⟨hn,-⟩|⟨a,len0,cap0,m,n,D,Pl,hn,-,hle,hmx,hm,-,hcell⟩
 ·exact⟨_,hn,[],Rd.nil W k,(fun _ h=>by cases h)⟩
 ·refine⟨_,hn,?_⟩
  simp only [if_true] at hm
  subst hm
  rw[hc] at hcell
  have key:∀ m,m≤len0→∃ l:List α,l.length=m∧(∀ a∈l,Q a)∧∀ i (hi:i<l.length) j,j<k→W.cell? (a.add (i*k+j))=(f l[i])[j]?:=by
   intro m
   induction m with
   | zero=>exact fun _=>⟨[],rfl,(fun _ h=>by cases h),fun i hi=>absurd hi (Nat.not_lt_zero _)⟩
   | succ m ih =>
    intro hm
    obtain⟨l,hl,hQ,hr⟩:=ih (by omega)
    obtain⟨cs',hcs,htr⟩:=hcell m (by omega)
    obtain⟨x,rfl,hx⟩:=hel _ _ _ htr
    obtain⟨-,-,hcs⟩:=World.cells?_some hcs
    refine⟨l++[x],by simp[hl],fun b hb=>?_,fun i hi j hj=>?_⟩
    ·rcases List.mem_append.1 hb with h|h
     ·exact hQ b h
     ·rw[List.mem_singleton.1 h];exact hx
    ·by_cases hi':i<l.length
     ·rw[hr i hi' j hj,List.getElem_append_left hi']
     ·have:i=m:=by simp at hi;omega
      subst this
      have:=hcs j hj
      rw[Go.Deep.add_add] at this
      rw[this,List.getElem_append_right (by omega)]
      simp[hl]
  obtain⟨l,hl,hQ,hr⟩:=key len0 (Nat.le_refl _)
  refine⟨l,⟨some a,len0,_,rfl,by rw[flatMap_len f k hk,hl],hle,hmx,fun hpos=>?_⟩,hQ⟩
  have hz:=hr 0 (by omega) 0 h0
  have hlt0:0<(f (l[0]'(by omega))).length:=by rw[hk];exact h0
  rw[List.getElem?_eq_getElem hlt0] at hz
  have hsp:=spot_none hz
  have ha0:a.add (0*k+0)=a:=by simp[Addr.add]
  rw[ha0] at hsp hz
  obtain⟨b,off,sp⟩:=a
  obtain rfl:sp=none:=hsp
  refine⟨b,off,rfl,World.block_lt_of_cell? W _ hz,fun j u hu=>?_⟩
  have hj:j<len0*k:=by
   have:=(List.getElem?_eq_some_iff.1 hu).1
   rwa [flatMap_len f k hk,hl] at this
  have hdiv:j / k<len0:=Nat.div_lt_of_lt_mul (by rw[Nat.mul_comm];exact hj)
  have hmod:j % k<k:=Nat.mod_lt _ h0
  have e:j=j / k*k+j % k:=by rw[Nat.mul_comm];exact(Nat.div_add_mod j k).symm
  have h1:=hr (j / k) (by omega) (j % k) hmod
  rw[add_lit,← e] at h1
  rw[h1,← flatMap_get f k hk l (j / k) (j % k) (by omega) hmod,← e]
  exact hu
section
variable {H:Type} {enc:TypeId × Value→H} {W:World}
set_option maxRecDepth 100000 in
theorem in_int {n:Nat} {cs:List Value} {x:DataW H × List MemPlace} (h:DataW.trod enc Tryz.prog W 0 (fun _=>true) true n 3 cs=some x):∃ a:Int,cs=[.int .i64 a]:=by
 obtain⟨a,ha,-⟩:=DataW.trod_int Tryz.underlying3 h
 exact⟨a,ha⟩
end
end Go.Proofs.YtdochkemaiokfaaGreat