/- Lemmas on what the functions of the program and of the library compute: Bw2, Bw3, Bw4, RT2, RT3, PlainBu, PlainBw. The conditions stand at each. -/
import Derived.Test.YtafncfomiolmgaaGreatDoorQ15
import Derived.Laws.EntriesVeiled
import Derived.Maps.OwnIn
import Derived.Test.YtafncfomiolmgaaGreatDoorQ2
import Derived.Test.YtafncfomiolmgaaGreatDoorQ9
import Derived.Test.YtafncfomiolmgaaGreatDoorQ8
import Derived.Deep.RegionHeld3
import Derived.Deep.AppendLies
import Derived.Test.YtafncfomiolmgaaGreatDoorQ10
namespace Go.Proofs.YtafncfomiolmgaaGreatDoor
open Go.RowKit Go.Shelf
attribute [local go_sem] Oper.semAt_some
structure Boxes (B lp Yb Tb Vb:Nat) (rv bv:Value) (W:World):Prop where
 y:∃ t,Prot B W Yb (.cells #[.func (.yield lp) #[] #[]] t (0,0))
 t:∃ t,Prot B W Tb (.cells #[rv,bv] t (0,0))
 v:∃ t,Prot B W Vb (.cells #[.func (.func 120) #[] #[.pointer (some ⟨Yb,0,none⟩),.pointer (some ⟨Tb,0,none⟩),.pointer (some ⟨Vb,0,none⟩)]] t (0,0))
theorem Boxes.kp {B lp Yb Tb Vb:Nat} {rv bv:Value} {W W':World} (h:Boxes B lp Yb Tb Vb rv bv W) (j:KpO B W W'):Boxes B lp Yb Tb Vb rv bv W' :=
 ⟨h.y.imp fun _ p=>p.kp j,h.t.imp fun _ p=>p.kp j,h.v.imp fun _ p=>p.kp j⟩
def VisEnd (J Jx:List (Int × Int)→World→Prop) (n₀ B:Nat) (L:List Int) (pre:List (Int × Int)) (W:World) (e:Ending) (W':World):Prop :=
 (e=.returned (.bool true)∧(∃ ys:List (Int × Int),ys.map Prod.fst=L∧J (pre++ys) W')∧KpB n₀ B W W')∨(e=.returned (.bool false)∧∃ ys:List (Int × Int),ys.map Prod.fst <+: L∧Jx (pre++ys) W')
theorem tVisit1 (kid above:Int) (Vb Ab:Nat) (p1 p2 p3:Value) (W:World) (c1:W.cell? ⟨Vb,0,none⟩=some (.func (.func 120) #[] #[p1,p2,p3])) (c2:W.cell? ⟨Ab,0,none⟩=some (.int .i64 above)) (R1 R2:World→Prop)
  (h:∀ a:Int,Calls Tryz.prog 120 (#[.int .i64 kid,.int .i64 a] ++ #[p1,p2,p3]) W fun e W'=>(e=.returned (.bool true)∧R1 W')∨(e=.returned (.bool false)∧R2 W')) :
  Calls Tryz.prog 122 (#[.int .i64 kid] ++ #[.pointer (some ⟨Vb,0,none⟩),.pointer (some ⟨Ab,0,none⟩)]) W fun e W'=>(e=.returned (.bool false)∧R1 W')∨(e=.returned (.bool true)∧R2 W'):=by
 have H:=uZ h
 clear h
 go_enter Tryz.func122,Tryz.ntmps122
 go_wp2_with fail
 refine(H.out _).mono ?_
 rintro e w' (⟨rfl,hb'⟩|⟨rfl,hb'⟩)
 ·dsimp only
  go_wp2
  go_ret
  exact .inl ⟨rfl,hb'⟩
 ·dsimp only
  go_wp2
  go_ret
  exact .inr ⟨rfl,hb'⟩
theorem enters_tVisit1:∀ args w,(callFunc 122 args).run Tryz.prog w=.ok (.enter 122 args) w:=enters_of Tryz.func122 (by kernel_rfl) rfl
theorem flat_next (g:Int→List Int) (ks:List Int) (i:Nat) (hi:i<ks.length):(ks.take (i+1)).flatMap g=(ks.take i).flatMap g++g ks[i]:=by
 rw[List.take_succ_eq_append_getElem hi,List.flatMap_append]
 simp
theorem flat_split (g:Int→List Int) (ks:List Int) (i:Nat) (hi:i<ks.length):ks.flatMap g=(ks.take i).flatMap g++(g ks[i]++(ks.drop (i+1)).flatMap g):=by
 have h:ks.flatMap g=(ks.take (i+1)++ks.drop (i+1)).flatMap g:=by rw[List.take_append_drop]
 rw[h,List.flatMap_append,flat_next g ks i hi,List.append_assoc]
def VisR (B lp Yb Tb Vb:Nat) (rv bv:Value) (w0 W:World) (above:Int) (pre:List (Int × Int)) (J:List (Int × Int)→World→Prop) (ks:List Int) (g:Int→List Int) (i:Nat) (W':World):Prop :=
 Boxes B lp Yb Tb Vb rv bv W'∧OutIn B W'∧Prot B W' W.heap.size (.cells #[.int .i64 above] 3 (0,0))∧Grew w0 W'∧KpB w0.heap.size B W W'∧∃ ys:List (Int × Int),ys.map Prod.fst=(ks.take i).flatMap g∧J (pre++ys) W'
theorem VisR.grew {B lp Yb Tb Vb:Nat} {rv bv:Value} {w0 W W':World} {above:Int} {pre:List (Int × Int)} {J:List (Int × Int)→World→Prop} {ks:List Int} {g:Int→List Int} {i:Nat} (h:VisR B lp Yb Tb Vb rv bv w0 W above pre J ks g i W'):Grew w0 W':=h.2.2.2.1
def VisS (pre:List (Int × Int)) (Jx:List (Int × Int)→World→Prop) (ks:List Int) (g:Int→List Int) (W':World):Prop:=∃ ys:List (Int × Int),ys.map Prod.fst <+: ks.flatMap g∧Jx (pre++ys) W'
theorem visStep {B lp Yb Tb Vb N:Nat} {rv bv:Value} {w0 W W4:World} {above:Int} {pre:List (Int × Int)} {J Jx:List (Int × Int)→World→Prop} {ks:List Int} {g:Int→List Int} {i:Nat} (hi:i<ks.length) (hN:pre.length+(ks.flatMap g).length≤N)
  (hK:∀ above pre W,Boxes B lp Yb Tb Vb rv bv W→OutIn B W→Grew w0 W→J pre W→pre.length+(g ks[i]).length≤N →
   Calls Tryz.prog 120 #[.int .i64 ks[i],.int .i64 above,.pointer (some ⟨Yb,0,none⟩),.pointer (some ⟨Tb,0,none⟩),.pointer (some ⟨Vb,0,none⟩)] W (VisEnd J Jx w0.heap.size B (g ks[i]) pre W))
  (h:VisR B lp Yb Tb Vb rv bv w0 W above pre J ks g i W4) :
  Calls Tryz.prog 122 (#[.int .i64 ks[i]] ++ #[.pointer (some ⟨Vb,0,none⟩),.pointer (some ⟨W.heap.size,0,none⟩)]) W4 fun e W'=>(e=.returned (.bool false)∧VisR B lp Yb Tb Vb rv bv w0 W above pre J ks g (i+1) W')∨(e=.returned (.bool true)∧VisS pre Jx ks g W'):=by
 obtain⟨hB,hO,hPA,hG,hK4,ys,hys,hj⟩:=h
 obtain⟨tv,hpv⟩:=hB.v
 have hsp:=flat_split g ks i hi
 have hlen:ys.length=((ks.take i).flatMap g).length:=by rw[← hys,List.length_map]
 refine tVisit1 ks[i] above Vb W.heap.size _ _ _ W4 (hpv.cell 0 _ rfl) (hPA.cell 0 _ rfl) _ _ fun a=>?_
 refine(hK a (pre++ys) W4 hB hO hG hj ?_).mono ?_
 ·rw[hsp] at hN
  simp only [List.length_append] at hN ⊢
  omega
 ·rintro e W' (⟨rfl,⟨zs,hzs,hj'⟩,hk'⟩|⟨rfl,zs,hzs,hj'⟩)
  ·refine .inl ⟨rfl,hB.kp hk'.2,hO.kp hk'.2,hPA.kp hk'.2,Below.trans hG hk'.1,hK4.trans hk',ys++zs,?_,by rw[← List.append_assoc];exact hj'⟩
   rw[flat_next g ks i hi,List.map_append,hys,hzs]
  ·refine .inr ⟨rfl,ys++zs,?_,by rw[← List.append_assoc];exact hj'⟩
   rw[hsp,List.map_append,hys]
   obtain⟨r,hr⟩:=hzs
   exact⟨r++(ks.drop (i+1)).flatMap g,by rw[← hr];simp⟩
set_option maxHeartbeats 4000000 in
set_option maxRecDepth 100000 in
theorem tVisitBody (rs:List Int) (l:List Br) (rv bv:Value) (w0:World) (hr:SlI w0 rv rs) (hv:SlBr w0 bv l) (hf:l.length≤1000000) (hT:RightT ⟨rs,l⟩) (B lp Yb Tb Vb N:Nat) (J Jx:List (Int × Int)→World→Prop)
  (hJ:∀ s W W',J s W→Grew W W'→J s W')
  (hY:∀ m pre (x:Int × Int) W,J pre W→pre.length<N→YieldAt Fence.wide m Tryz.prog lp #[.int .i64 x.1,.int .i64 x.2] W fun e W' =>
   (e=.returned (.bool true)∧J (pre++[x]) W'∧KpB w0.heap.size B W W')∨(e=.returned (.bool false)∧Jx (pre++[x]) W'))
  (x:Int) (hid:x=0∨∃ b,brFind l x=some b) (g:Int→List Int)
  (hK:∀ k∈childs ⟨rs,l⟩ x,∀ above pre W,Boxes B lp Yb Tb Vb rv bv W→OutIn B W→Grew w0 W→J pre W→pre.length+(g k).length≤N →
   Calls Tryz.prog 120 #[.int .i64 k,.int .i64 above,.pointer (some ⟨Yb,0,none⟩),.pointer (some ⟨Tb,0,none⟩),.pointer (some ⟨Vb,0,none⟩)] W (VisEnd J Jx w0.heap.size B (g k) pre W))
  (above:Int) (pre:List (Int × Int)) (W:World) (hB:Boxes B lp Yb Tb Vb rv bv W) (hO:OutIn B W) (hG:Grew w0 W) (hj:J pre W) (hN:pre.length+(x::(childs ⟨rs,l⟩ x).flatMap g).length≤N) :
  Calls Tryz.prog 120 #[.int .i64 x,.int .i64 above,.pointer (some ⟨Yb,0,none⟩),.pointer (some ⟨Tb,0,none⟩),.pointer (some ⟨Vb,0,none⟩)] W (VisEnd J Jx w0.heap.size B (x::(childs ⟨rs,l⟩ x).flatMap g) pre W):=by
 simp only [List.length_cons] at hN
 obtain⟨W1,hW1⟩:∃ W1,W1=W.alloc (.cells #[.int .i64 above] 3):=⟨_,rfl⟩
 have hn0:w0.heap.size≤W.heap.size:=hG.size
 have hgA:Grew W W1:=by rw[hW1];exact(uX W).alloc _
 have hkA:KpB w0.heap.size B W W1:=KpB.grew hO.1 hn0 hgA
 have hPA:Prot B W1 W.heap.size (.cells #[.int .i64 above] 3 (0,0)):=by rw[hW1];exact Prot.new hO rfl
 have hB1:=hB.kp hkA.2
 have hO1:=hO.kp hkA.2
 obtain⟨fn,tmps,assign,body,hy,hR⟩:=hY 8 pre (x,above) W1 (hJ _ _ _ hj hgA) b_37
 obtain⟨ty,hpy⟩:=hB1.y
 have cy:W1.cell? ⟨Yb,0,none⟩=some (.func (.yield lp) #[] #[]):=hpy.cell 0 _ rfl
 have ca:W1.cell? ⟨W.heap.size,0,none⟩=some (.int .i64 above):=hPA.cell 0 _ rfl
 have HPA:=uZ hPA
 have HB1:=uZ hB1
 have HO1:=uZ hO1
 have HKA:=uZ hkA
 have HG1:=uZ (hG.trans hgA)
 have HN:=uZ hN
 have HK:=uZ hK
 have HJ:=uZ hJ
 have HKI:=uZ (fun W (hW:Grew w0 W)=>tKids0 rs l x rv bv w0 W hr hv hW hf hT hid)
 generalize childs ⟨rs,l⟩ x=ks at HN HK HKI ⊢
 clear hr hv hT hJ hY hK hB hO hG hj hN hgA hkA hPA hB1 hO1 hpy hid hf hn0
 subst hW1
 refine(callsIn_wide (n:=9)).1 ?_
 refine callsIn_of_wp Tryz.func120 rfl trivial ?_ rfl
 simp only [Tryz.ntmps120,List.size_toArray,List.length_cons,List.length_nil,Nat.reduceAdd,Nat.reduceSub,Array.replicate_succ,Array.replicate_zero,List.push_toArray,List.append_toArray,List.nil_append,List.cons_append]
 gi_wp2_with fail
 refine hR.mono ?_
 rintro e W2 (⟨rfl,hJ2,hk2⟩|⟨rfl,hJx2⟩)
 ·have HK2:=uZ (HKA.out.trans hk2)
  have HB2:=uZ (HB1.out.kp hk2.2)
  have HO2:=uZ (HO1.out.kp hk2.2)
  have HPA2:=uZ (HPA.out.kp hk2.2)
  have HG2:=uZ (show Grew w0 W2 from Below.trans HG1.out hk2.1)
  obtain⟨tt,hpt⟩:=HB2.out.t
  have t0:W2.cell? ⟨Tb,0,none⟩=some rv:=hpt.cell 0 _ rfl
  have t1:W2.cell? ⟨Tb,1,none⟩=some bv:=hpt.cell 1 _ rfl
  have HJ2:=uZ hJ2
  clear hk2 hpt hJ2
  dsimp only
  gi_wp2_with fail
  refine⟨trivial,(callsIn_wide.2 (HKI.out _ HG2.out)).mono ?_⟩
  rintro e W3 ⟨v3,rfl,s3,g3⟩
  have hk3:KpB w0.heap.size B W2 W3:=KpB.grew HO2.out.1 HG2.out.size g3
  have hc:=containsEff ks 122 #[.pointer (some ⟨Vb,0,none⟩),.pointer (some ⟨W.heap.size,0,none⟩)] enters_tVisit1 v3 w0 W3 s3 (VisR B lp Yb Tb Vb rv bv w0 W above (pre++[(x,above)]) J ks g) (VisS (pre++[(x,above)]) Jx ks g)
   ⟨HB2.out.kp hk3.2,HO2.out.kp hk3.2,HPA2.out.kp hk3.2,HG2.out.trans g3,HK2.out.trans hk3,[],by simp,by simpa using HJ.out _ _ _ HJ2.out g3⟩ (fun _ _ h=>h.grew) (fun i hi W4 hR4=>visStep hi (by have:=HN.out;simp only [List.length_append,List.length_cons,List.length_nil];omega) (HK.out ks[i] (List.getElem_mem hi)) hR4)
  have HC:=uZ hc
  clear hk3 hc t0 t1 g3
  dsimp only
  gi_wp2_with fail
  refine⟨trivial,(callsIn_wide.2 HC.out).mono ?_⟩
  rintro e W4 (⟨rfl,h4⟩|⟨rfl,h4⟩)
  ·dsimp only
   gi_wp2
   go_ret
   obtain⟨-,-,-,-,hk4,ys,hys,hj4⟩:=h4
   rw[List.take_length] at hys
   exact .inl ⟨rfl,⟨(x,above)::ys,by simp[hys],by simpa [List.append_assoc] using hj4⟩,hk4⟩
  ·dsimp only
   gi_wp2
   go_ret
   obtain⟨ys,hys,hj4⟩:=h4
   exact .inr ⟨rfl,(x,above)::ys,by simpa using hys,by simpa [List.append_assoc] using hj4⟩
 ·dsimp only
  gi_wp2
  go_ret
  exact .inr ⟨rfl,[(x,above)],by simp,hJx2⟩
end Go.Proofs.YtafncfomiolmgaaGreatDoor
namespace Go.Proofs.YtafncfomiolmgaaGreatDoor
open Go.RowKit Go.Shelf
attribute [local go_sem] Oper.semAt_some
set_option maxRecDepth 100000 in
theorem c_56 {p:Prop} (h:p:=by
 rw[List.eq_nil_iff_forall_not_mem]
 intro k hk
 obtain⟨c,hc,hcp,_⟩:=(childs_mem hS (.inr ⟨b,hb,rfl⟩)).1 hk
 have h1:=deep_child hS hb hc hcp hd
 have h2:=deep_le hS.asc hc h1
 have h3:(Tr.brs ⟨rs,l⟩).length=l.length:=rfl
 omega):p:=h
theorem Prot.fresh {B k:Nat} {W W':World} {o:Obj} (h:OutIn B W) (hg:Grew W W') (hk:W.heap.size≤k) (ho:W'.heap[k]? = some o) (hc:o.isCells=true):Prot B W' k o:=by
 refine⟨ho,hc,by have:=h.1;omega,fun v hv hb=>?_⟩
 rw[hg.cell h.1] at hv
 have:=h.2 v hv _ hb
 omega
theorem cell_two (W:World) (o:Obj) (v:Value) (t:TypeId):((W.alloc o).alloc (.cells #[v] t)).cell? ⟨W.heap.size+1,0,none⟩=some v∧((W.alloc o).alloc (.cells #[v] t)).frozen? ⟨W.heap.size+1,0,none⟩=false:=by
 have h:=World.alloc_heap_new (W.alloc o) (.cells #[v] t)
 rw[World.size_alloc] at h
 exact⟨cell_of_one h,free_of_one h⟩
theorem func_one (f:Fn) (b:Array Value):(Value.func f #[] b).oneCell'=true:=by simp[Value.oneCell']
def RootR (B lp Yb Tb Vb:Nat) (rv bv:Value) (w0:World) (J:List (Int × Int)→World→Prop) (rs:List Int) (g:Int→List Int) (k:Nat) (W:World):Prop :=
 Boxes B lp Yb Tb Vb rv bv W∧OutIn B W∧Grew w0 W∧∃ ys:List (Int × Int),ys.map Prod.fst=(rs.take k).flatMap g∧J ys W
theorem rootStep {B lp Yb Tb Vb:Nat} {rv bv:Value} {w0 W W5:World} {J:List (Int × Int)→World→Prop} {rs:List Int} {g:Int→List Int} {k:Nat} {ys zs:List (Int × Int)} (hk:k<rs.length) (hB:Boxes B lp Yb Tb Vb rv bv W) (hO:OutIn B W) (hG:Grew w0 W) (hys:ys.map Prod.fst=(rs.take k).flatMap g)
  (h1:zs.map Prod.fst=g rs[k]) (h2:J (ys++zs) W5) (h3:KpB w0.heap.size B W W5):RootR B lp Yb Tb Vb rv bv w0 J rs g (k+1) W5 :=
 ⟨hB.kp h3.2,hO.kp h3.2,Below.trans hG h3.1,ys++zs,by rw[flat_next g rs k hk,List.map_append,hys,h1],h2⟩
theorem rootStop {rs:List Int} {g:Int→List Int} {k:Nat} {ys zs:List (Int × Int)} (hk:k<rs.length) (hys:ys.map Prod.fst=(rs.take k).flatMap g) (h1:zs.map Prod.fst <+: g rs[k]):(ys++zs).map Prod.fst <+: rs.flatMap g:=by
 rw[flat_split g rs k hk,List.map_append,hys]
 obtain⟨r,hr⟩:=h1
 exact⟨r++(rs.drop (k+1)).flatMap g,by rw[← hr];simp⟩
section
variable (rs:List Int) (l:List Br) (rv bv:Value) (w0:World) (hr:SlI w0 rv rs) (hv:SlBr w0 bv l) (hf:l.length≤1000000) (hT:RightT ⟨rs,l⟩) (B lp Yb Tb Vb N:Nat) (J Jx:List (Int × Int)→World→Prop)
  (hJ:∀ s W W',J s W→Grew W W'→J s W')
  (hY:∀ m pre (x:Int × Int) W,J pre W→pre.length<N→YieldAt Fence.wide m Tryz.prog lp #[.int .i64 x.1,.int .i64 x.2] W fun e W' =>
   (e=.returned (.bool true)∧J (pre++[x]) W'∧KpB w0.heap.size B W W')∨(e=.returned (.bool false)∧Jx (pre++[x]) W'))
include hr hv hf hT hJ hY
theorem tVisit:∀(f:Nat) (b:Br) (d:Nat),b∈l→deep l l.length b=some d→l.length≤f+d→∀ above pre W,Boxes B lp Yb Tb Vb rv bv W→OutIn B W→Grew w0 W→J pre W→pre.length+(belowL ⟨rs,l⟩ f b.id).length≤N →
  Calls Tryz.prog 120 #[.int .i64 b.id,.int .i64 above,.pointer (some ⟨Yb,0,none⟩),.pointer (some ⟨Tb,0,none⟩),.pointer (some ⟨Vb,0,none⟩)] W (VisEnd J Jx w0.heap.size B (belowL ⟨rs,l⟩ f b.id) pre W):=by
 have hS:=right_sound hT
 intro f
 induction f with
 | zero =>
  intro b d hb hd hfd above pre W hB hO hG hj hN
  have hno:childs ⟨rs,l⟩ b.id=[]:=by
   exact c_56
  have he:belowL ⟨rs,l⟩ 0 b.id=b.id::(childs ⟨rs,l⟩ b.id).flatMap (fun _=>[]):=by rw[hno];rfl
  rw[he] at hN ⊢
  exact tVisitBody rs l rv bv w0 hr hv hf hT B lp Yb Tb Vb N J Jx hJ hY b.id (.inr ⟨b,find_byid hS.asc hb⟩) _ (fun k hk=>by rw[hno] at hk;cases hk) above pre W hB hO hG hj hN
 | succ f ih =>
  intro b d hb hd hfd above pre W hB hO hG hj hN
  refine tVisitBody rs l rv bv w0 hr hv hf hT B lp Yb Tb Vb N J Jx hJ hY b.id (.inr ⟨b,find_byid hS.asc hb⟩) (belowL ⟨rs,l⟩ f) (fun k hk=>?_) above pre W hB hO hG hj hN
  obtain⟨c,hc,hcp,e⟩:=(childs_mem hS (.inr ⟨b,hb,rfl⟩)).1 hk
  rw[← e]
  exact ih c (d+1) hc (deep_child hS hb hc hcp hd) b_37
set_option maxHeartbeats 4000000 in
set_option maxRecDepth 100000 in
theorem tWalk1 (Ib:Nat) (id:Int) (hid:id=0∨∃ b,brFind l id=some b) (hN:(belowT ⟨rs,l⟩ id).length≤N) (W:World) (hTb:∃ t,Prot B W Tb (.cells #[rv,bv] t (0,0))) (hIb:W.cell? ⟨Ib,0,none⟩=some (.int .i64 id)) (hO:OutIn B W) (hG:Grew w0 W) (h0:J [] W)
  (hVb:Vb=W.heap.size+1) (hYb:Yb=W.heap.size) :
  Calls Tryz.prog 119 #[.func (.yield lp) #[] #[],.pointer (some ⟨Tb,0,none⟩),.pointer (some ⟨Ib,0,none⟩)] W fun e W'=>(∃ v,e=.returned v)∧((∃ xs:List (Int × Int),xs.map Prod.fst=belowT ⟨rs,l⟩ id∧J xs W')∨(∃ pre:List (Int × Int),pre.map Prod.fst <+: belowT ⟨rs,l⟩ id∧Jx pre W')):=by
 have hS:=right_sound hT
 have hV:=tVisit rs l rv bv w0 hr hv hf hT B lp Yb Tb Vb N J Jx hJ hY
 have hVr:∀ k∈rs,∀ above pre W,Boxes B lp Yb Tb Vb rv bv W→OutIn B W→Grew w0 W→J pre W→pre.length+(belowL ⟨rs,l⟩ l.length k).length≤N →
   Calls Tryz.prog 120 #[.int .i64 k,.int .i64 above,.pointer (some ⟨Yb,0,none⟩),.pointer (some ⟨Tb,0,none⟩),.pointer (some ⟨Vb,0,none⟩)] W (VisEnd J Jx w0.heap.size B (belowL ⟨rs,l⟩ l.length k) pre W):=by
  intro k hk
  obtain⟨c,hc,_,e⟩:=(hS.roots.2 k).1 hk
  obtain⟨d,hd,_⟩:=deep_some hS hc
  rw[← e]
  exact hV l.length c d hc hd b_37
 have hVi:∀ b,brFind l id=some b→∀ above pre W,Boxes B lp Yb Tb Vb rv bv W→OutIn B W→Grew w0 W→J pre W→pre.length+(belowL ⟨rs,l⟩ l.length id).length≤N →
   Calls Tryz.prog 120 #[.int .i64 id,.int .i64 above,.pointer (some ⟨Yb,0,none⟩),.pointer (some ⟨Tb,0,none⟩),.pointer (some ⟨Vb,0,none⟩)] W (VisEnd J Jx w0.heap.size B (belowL ⟨rs,l⟩ l.length id) pre W):=by
  intro b hb
  have hin:=find_in hb
  obtain⟨d,hd,_⟩:=deep_some hS hin.1
  rw[← hin.2]
  exact hV l.length b d hin.1 hd b_37
 subst hVb hYb
 obtain⟨tb,hpt⟩:=hTb
 have t0:W.cell? ⟨Tb,0,none⟩=some rv:=hpt.cell 0 _ rfl
 obtain⟨W2,hW2⟩:∃ W2,W2=(W.alloc (.cells #[.func (.yield lp) #[] #[]] 120)).alloc (.cells #[.func (.func 120) #[] #[.pointer (some ⟨W.heap.size,0,none⟩),.pointer (some ⟨Tb,0,none⟩),.pointer (some ⟨W.heap.size+1,0,none⟩)]] 120):=⟨_,rfl⟩
 have hgA:Grew W W2:=by rw[hW2];exact((uX W).alloc _).alloc _
 have hB2:Boxes B lp W.heap.size Tb (W.heap.size+1) rv bv W2:=by
  refine⟨⟨_,Prot.fresh hO hgA (Nat.le_refl _) (o:=.cells #[.func (.yield lp) #[] #[]] 120 (0,0)) ?_ rfl⟩,⟨tb,hpt.kp (KpO.grew hO.1 hgA)⟩,⟨_,Prot.fresh hO hgA (Nat.le_succ _) (o:=.cells #[.func (.func 120) #[] #[.pointer (some ⟨W.heap.size,0,none⟩),.pointer (some ⟨Tb,0,none⟩),.pointer (some ⟨W.heap.size+1,0,none⟩)]] 120 (0,0)) ?_ rfl⟩⟩
  ·rw[hW2]
   rw[Below.heap_alloc _ _ _ b_38]
   exact World.alloc_heap_new W _
  ·rw[hW2]
   have:=World.alloc_heap_new (W.alloc (.cells #[.func (.yield lp) #[] #[]] 120)) (.cells #[.func (.func 120) #[] #[.pointer (some ⟨W.heap.size,0,none⟩),.pointer (some ⟨Tb,0,none⟩),.pointer (some ⟨W.heap.size+1,0,none⟩)]] 120)
   rwa [World.size_alloc] at this
 have hO2:=hO.kp (KpO.grew hO.1 hgA)
 have hi2:W2.cell? ⟨Ib,0,none⟩=some (.int .i64 id):=uQ hgA hIb
 have ht2:W2.cell? ⟨Tb,0,none⟩=some rv:=uQ hgA t0
 have hv2:W2.cell? ⟨W.heap.size+1,0,none⟩=some (.func (.func 120) #[] #[.pointer (some ⟨W.heap.size,0,none⟩),.pointer (some ⟨Tb,0,none⟩),.pointer (some ⟨W.heap.size+1,0,none⟩)]):=by
  obtain⟨tv,hpv⟩:=hB2.v
  exact hpv.cell 0 _ rfl
 have HJ2:=uZ (hJ _ _ _ h0 hgA)
 have HB2:=uZ hB2
 have HO2:=uZ hO2
 have HG2:=uZ (hG.trans hgA)
 have HVr:=uZ hVr
 have HVi:=uZ hVi
 have HNN:=uZ hN
 have HR:=uZ hr
 have HJ:=uZ hJ
 have HW2:=uZ hW2
 have HI2:=uZ hi2
 have HT2:=uZ ht2
 have HV2:=uZ hv2
 clear hW2 hi2 ht2 hv2 t0 hIb
 clear hV hVr hVi hS hT hY hv hf hB2 hO2 hgA hpt hO hG h0 hN hr
 by_cases hz:id=0
 ·subst hz
  have hbt:belowT ⟨rs,l⟩ 0=rs.flatMap (belowL ⟨rs,l⟩ l.length):=by
   unfold belowT
   rw[if_pos rfl]
  rw[hbt] at HNN ⊢
  generalize belowL ⟨rs,l⟩ l.length=g at HVr HVi HNN ⊢
  obtain⟨A,c,rfl,hlc,hc,hcr⟩:=HR.out.open_
  unfold maxLen at hc
  have HCR:=uZ hcr
  clear hbt hcr hid HVi
  obtain⟨cn,fn⟩:=cell_two W (.cells #[.func (.yield lp) #[] #[]] 120) .nilFunc 120
  have ho:=func_one (.func 120) #[.pointer (some ⟨W.heap.size,0,none⟩),.pointer (some ⟨Tb,0,none⟩),.pointer (some ⟨W.heap.size+1,0,none⟩)]
  have hi2:=HI2.out
  have ht2:=HT2.out
  rw[HW2.out] at hi2 ht2
  go_enter Tryz.func119,Tryz.ntmps119
  go_wp2
  go_loopg [6,16] rs.length (fun gg _ s16 wr=>∃ k:Nat,k≤rs.length∧rs.length-k≤gg∧s16=.int .i64 k∧Aside (RootR B lp W.heap.size Tb (W.heap.size+1) (.slice A rs.length c) bv w0 J rs g k wr))
  case atStart=>exact⟨0,by omega,by omega,rfl,(show Aside _ from by rw[← HW2.out];exact⟨HB2.out,HO2.out,HG2.out,[],by simp,HJ2.out⟩)⟩
  case round =>
   obtain⟨k,hk,hgk,rfl,RW⟩:=hrel
   by_cases hlt:k<rs.length
   ·have hltz:(k:Int)<(rs.length:Int):=by omega
    have h0z:(0:Int)≤(k:Int):=by omega
    obtain⟨b,off,rfl,hbk,hcell⟩:=HCR.out b_37
    obtain⟨hBr,hOr,hGr,ys,hys,hjr⟩:=RW.out
    have c0:=hcell wr hGr k hlt
    obtain⟨tv,hpv⟩:=hBr.v
    have cv:wr.cell? ⟨W.heap.size+1,0,none⟩=some (.func (.func 120) #[] #[.pointer (some ⟨W.heap.size,0,none⟩),.pointer (some ⟨Tb,0,none⟩),.pointer (some ⟨W.heap.size+1,0,none⟩)]):=hpv.cell 0 _ rfl
    have hsp:=flat_split g rs k hlt
    have hlen:ys.length=((rs.take k).flatMap g).length:=by rw[← hys,List.length_map]
    have hcall:=HVr.out rs[k] (List.getElem_mem hlt) 0 ys wr hBr hOr hGr hjr (by
     have:=HNN.out
     rw[hsp] at this
     simp only [List.length_append] at this
     omega)
    have HCALL:=uZ hcall
    have HST:=uZ (fun W5 (zs:List (Int × Int)) h1 h2 h3=>rootStep (J:=J) (g:=g) (rs:=rs) hlt hBr hOr hGr hys (W5:=W5) (zs:=zs) h1 h2 h3)
    have HSX:=uZ (fun(zs:List (Int × Int)) h1=>rootStop (g:=g) (rs:=rs) hlt hys (zs:=zs) h1)
    clear hcell hBr hOr hGr hys hjr hpv hsp hlen hcall
    generalize rs[k]=y at c0 HCALL HST HSX
    go_wp2_with fail
    refine HCALL.out.mono ?_
    rintro e W5 (⟨rfl,⟨zs,hzs,hj5⟩,hk5⟩|⟨rfl,zs,hzs,hj5⟩)
    ·have hst:=HST.out W5 zs hzs hj5 hk5
     dsimp only
     go_wp2
     go_roundg (rs.length-(k+1))
     case measure=>omega
     case rel=>exact⟨k+1,by omega,by omega,by go_num,(show Aside _ from hst)⟩
    ·have hsx:=HSX.out zs hzs
     dsimp only
     go_wp2
     refine bodyPost_ret (results_none rfl _ _ _) rfl ?_
     exact⟨⟨_,rfl⟩,.inr ⟨ys++zs,hsx,hj5⟩⟩
   ·have hltz:¬ (k:Int)<(rs.length:Int):=by omega
    obtain rfl:k=rs.length:=by omega
    go_wp2
    go_end0
    obtain⟨-,-,-,ys,hys,hjr⟩:=RW.out
    rw[List.take_length] at hys
    exact⟨⟨_,rfl⟩,.inl ⟨ys,hys,hjr⟩⟩
 ·obtain⟨b,hb⟩:=hid.resolve_left hz
  have hbt:belowT ⟨rs,l⟩ id=belowL ⟨rs,l⟩ l.length id:=by
   unfold belowT
   rw[if_neg hz]
  rw[hbt] at HNN ⊢
  have HC:=uZ (HVi.out b hb 0 [] W2 HB2.out HO2.out HG2.out HJ2.out (by have:=HNN.out;simpa using this))
  generalize belowL ⟨rs,l⟩ l.length id=L at HC ⊢
  have hz':(id == 0)=false:=by simpa using hz
  have hi2:=HI2.out
  have hv2:=HV2.out
  rw[HW2.out] at hi2 hv2 HC
  obtain⟨cn,fn⟩:=cell_two W (.cells #[.func (.yield lp) #[] #[]] 120) .nilFunc 120
  have ho:=func_one (.func 120) #[.pointer (some ⟨W.heap.size,0,none⟩),.pointer (some ⟨Tb,0,none⟩),.pointer (some ⟨W.heap.size+1,0,none⟩)]
  clear hbt hb hid HVr HVi hz
  go_enter Tryz.func119,Tryz.ntmps119
  go_wp2_with fail
  refine HC.out.mono ?_
  rintro e W5 (⟨rfl,⟨zs,hzs,hj5⟩,hk5⟩|⟨rfl,zs,hzs,hj5⟩)
  ·dsimp only
   go_wp2
   refine bodyPost_ret (results_none rfl _ _ _) rfl ?_
   exact⟨⟨_,rfl⟩,.inl ⟨zs,hzs,by simpa using hj5⟩⟩
  ·dsimp only
   go_wp2
   refine bodyPost_ret (results_none rfl _ _ _) rfl ?_
   exact⟨⟨_,rfl⟩,.inr ⟨zs,hzs,by simpa using hj5⟩⟩
end
end Go.Proofs.YtafncfomiolmgaaGreatDoor
namespace Go.Proofs.YtafncfomiolmgaaGreatDoor
open Go.RowKit Go.Shelf
attribute [local go_sem] Oper.semAt_some
theorem tWalk (rv bv:Value) (id:Int) (w:World):Calls Tryz.prog 76 #[.agg #[rv,bv],.int .i64 id] w fun e w'=>e=.returned (.func (.func 119) #[] #[.pointer (some ⟨w.heap.size,0,none⟩),.pointer (some ⟨w.heap.size+1,0,none⟩)])∧(w.alloc (.cells #[rv,bv] 35)).alloc (.cells #[.int .i64 id] 3)=w':=by
 go_enter Tryz.func76,Tryz.ntmps76
 go_wp2
 go_ret
 exact⟨rfl,rfl⟩
theorem kpO_append {W w1:World} {n₀ B:Nat} {t e:TypeId} {size:Nat} {v v':Value} {k m:Nat} {xs ys:List Value} {tmp:Obj} (hv:Boxed W B t v) (hte:t≠e) (hrow:W.ownsRow n₀ e size v k xs) (hown':w1.ownsRow n₀ e size v' m ys) (hgrow:(W.alloc tmp).grownBy w1 v.ownBlock)
  (hloc:v'.ownBlock=v.ownBlock∨v'.ownBlock=some (W.alloc tmp).heap.size):KpO B W (w1.setCell ⟨B,0,none⟩ v'):=by
 have hv1:Boxed w1 B t v:=(hv.alloc tmp).kept hgrow (hv.not_row hte hrow)
 have hsz:W.heap.size+1≤w1.heap.size:=by have:=hgrow.size;simpa using this
 refine⟨by simp;omega,fun j o ho hc hne hr=>?_,fun v'' hv''=>?_⟩
 ·rw[Below.heap_setCell _ _ _ _ hne]
  have hj:=(Array.getElem?_eq_some_iff.1 ho).1
  rw[hgrow.block j (by simp;omega) (fun e=>hr v hv.cell e.symm),Below.heap_alloc _ _ _ hj]
  exact ho
 ·have:v''=v':=by
   have h2:=(hv1.set v').cell
   rw[h2] at hv''
   exact(Option.some.inj hv'').symm
  subst this
  rcases hloc with h|h
  ·exact .inl ⟨v,hv.cell,h.symm⟩
  ·refine .inr fun b hb=>?_
   have h3:=(hown'.lt b hb).2
   rw[h] at hb
   injection hb with hb
   simp at hb h3 ⊢
   omega
open Classical in
noncomputable def belowR (t:Tr) (id:Int):List Int × Int:=if RightT t then(if topR t.brs id=0 then(belowT t id,0) else([],topR t.brs id)) else([],1)
def RetMine (r:List Int × Int) (w:World) (e:Ending) (w':World):Prop:=∃ v,e=.returned (.tuple #[v,.int .i64 r.2])∧w'.ownsRow w.heap.size 3 1 v r.1.length (r.1.flatMap oneI)∧Grew w w'
theorem RetMine.is_ {r:List Int × Int} {w:World} {e:Ending} {w':World} (h:RetMine r w e w'):RetIs r w e w':=by
 obtain⟨v,h1,h2,h3⟩:=h
 exact⟨v,h1,Rd.of_own h2,h3⟩
theorem walkStops (rs:List Int) (l:List Br) (rv bv:Value) (w0:World) (hr:SlI w0 rv rs) (hv:SlBr w0 bv l) (hf:l.length≤1000000) (hT:RightT ⟨rs,l⟩) (id:Int) (hid:id=0∨∃ b,brFind l id=some b) (B Tb Ib n:Nat) (w:World) (hO:OutIn B w) (hTb:∃ t,Prot B w Tb (.cells #[rv,bv] t (0,0))) (hIb:w.cell? ⟨Ib,0,none⟩=some (.int .i64 id)) (hG:Grew w0 w) :
  SeqStopsK Fence.wide n Tryz.prog 119 #[.pointer (some ⟨Tb,0,none⟩),.pointer (some ⟨Ib,0,none⟩)] (fun x:Int × Int=>#[Value.int .i64 x.1,Value.int .i64 x.2]) (KpB w0.heap.size B) (fun ys=>ys.map Prod.fst=belowT ⟨rs,l⟩ id) (fun pre=>pre.map Prod.fst <+: belowT ⟨rs,l⟩ id) (belowT ⟨rs,l⟩ id).length w :=
 fun lp J Jx W hW hJa _ hY h0=>by
  have hgw:Grew w W:=hW
  refine callsIn_wide.2 ?_
  exact tWalk1 rs l rv bv w0 hr hv hf hT B lp W.heap.size Tb (W.heap.size+1) (belowT ⟨rs,l⟩ id).length J Jx (fun s A A' hj hg=>hJa s A A' none hj (grown_grew hg none) (fun r e=>by cases e))
   (fun m pre x W1 hj hlt=>yieldFree rfl m (hY pre x W1 hj hlt)) Ib id hid (Nat.le_refl _) W (hTb.imp fun t p=>p.kp (KpO.grew hO.1 hgw)) (uQ hgw hIb) (hO.kp (KpO.grew hO.1 hgw)) (hG.trans hgw) h0 rfl rfl
set_option maxHeartbeats 4000000 in
theorem tBelowNo (rs:List Int) (l:List Br) (id:Int) (rv bv:Value) (w:World) (hE:Env w) (hr:SlI w rv rs) (hv:SlBr w bv l) (hf:FewBr l) (hrl:rs.length≤1000000) (hno:RightT ⟨rs,l⟩→topR l id≠0) :
  Calls Tryz.prog 34 #[.agg #[rv,bv],.int .i64 id] w (RetMine (belowR ⟨rs,l⟩ id) w):=by
 have hO:=fun W (hW:Grew w W) n hn=>tOrTop rs l id rv bv W (hE.mono hW) (hr.mono hW) (hv.mono hW) hf hrl n hn
 obtain⟨n,hz,hn,hres⟩:∃ n:Int,n≠0∧((¬ RightT ⟨rs,l⟩→n=1)∧(RightT ⟨rs,l⟩→n=topR l id))∧belowR ⟨rs,l⟩ id=([],n):=by
  by_cases hT:RightT ⟨rs,l⟩
  ·refine⟨topR l id,hno hT,⟨fun h=>absurd hT h,fun _=>rfl⟩,?_⟩
   unfold belowR
   rw[if_pos hT]
   show(if topR l id=0 then(belowT ⟨rs,l⟩ id,(0:Int)) else([],topR l id))=_
   rw[if_neg (hno hT)]
  ·refine⟨1,by decide,⟨fun _=>rfl,fun h=>absurd h hT⟩,?_⟩
   unfold belowR
   rw[if_neg hT]
 have KO:=uZ (fun W hW=>hO W hW n hn)
 rw[hres]
 have hz':(n != 0)=true:=by simpa using hz
 clear hE hr hv hf hrl hO hn hz hres hno
 go_enter Tryz.func34,Tryz.ntmps34
 go_wp2_with fail
 refine(KO.out _ ((uX w).alloc _)).mono ?_
 rintro e w1 ⟨rfl,g1⟩
 dsimp only
 go_wp2
 go_ret2
 exact⟨_,rfl,World.ownsRow_nil _ _ _ _,((uX w).alloc _).trans g1⟩
set_option maxRecDepth 100000 in
set_option maxHeartbeats 4000000 in
theorem tBelow (rs:List Int) (l:List Br) (id:Int) (rv bv:Value) (w:World) (hE:Env w) (hr:SlI w rv rs) (hv:SlBr w bv l) (hf:FewBr l) (hrl:rs.length≤1000000) (hlen:RightT ⟨rs,l⟩→(belowT ⟨rs,l⟩ id).length≤1000000) :
  Calls Tryz.prog 34 #[.agg #[rv,bv],.int .i64 id] w (RetMine (belowR ⟨rs,l⟩ id) w):=by
 have hO:=fun W (hW:Grew w W) n hn=>tOrTop rs l id rv bv W (hE.mono hW) (hr.mono hW) (hv.mono hW) hf hrl n hn
 by_cases hT:RightT ⟨rs,l⟩
 case neg=>exact tBelowNo rs l id rv bv w hE hr hv hf hrl (fun h=>absurd h hT)
 have hn:(¬ RightT ⟨rs,l⟩→topR l id=1)∧(RightT ⟨rs,l⟩→topR l id=topR l id):=⟨fun h=>absurd hT h,fun _=>rfl⟩
 have KO:=uZ (fun W hW=>hO W hW _ hn)
 by_cases hz:topR l id=0
 case neg=>exact tBelowNo rs l id rv bv w hE hr hv hf hrl (fun _=>hz)
 have hres:belowR ⟨rs,l⟩ id=(belowT ⟨rs,l⟩ id,0):=by
  unfold belowR
  rw[if_pos hT,if_pos hz]
 have hstop:=fun B Tb Ib n w'=>walkStops rs l rv bv w hr hv hf.1 hT id (top_found hz) B Tb Ib n w'
 have hlen':=hlen hT
 rw[hres]
 rw[hz] at KO
 generalize belowT ⟨rs,l⟩ id=L at hstop hlen' ⊢
 have HS:=uZ hstop
 have HLEN:=uZ hlen'
 obtain⟨i0,hi,hz0,hz1,hz2⟩:=info_parts cinfoI
 clear hE hr hv hf hrl hO hn hz hres hT hlen hstop hlen'
 refine(callsIn_wide (n:=9)).1 ?_
 refine callsIn_of_wp_marks Tryz.func34 rfl trivial ?_ rfl
 simp only [Tryz.ntmps34,List.size_toArray,List.length_cons,List.length_nil,Nat.reduceAdd,Nat.reduceSub,Array.replicate_succ,Array.replicate_zero,List.push_toArray,List.append_toArray,List.nil_append,List.cons_append]
 gi_wp2_with fail
 refine⟨trivial,(callsIn_wide.2 (KO.out _ ((uX w).alloc _))).mono ?_⟩
 rintro e w1 ⟨rfl,g1⟩
 have b0:=yQ g1 0 _ rfl
 have b1:=yQ g1 1 _ rfl
 have HG1:=uZ (((uX w).alloc _).trans g1)
 have c0:=uQ ((uX w1).alloc (.cells #[.slice none 0 0] 32)) b0
 have c1:=uQ ((uX w1).alloc (.cells #[.slice none 0 0] 32)) b1
 clear g1 b0 b1
 dsimp only
 gi_wp2_with fail
 refine⟨trivial,(callsIn_wide.2 (tWalk rv bv id _)).mono ?_⟩
 rintro e w2 ⟨rfl,hw2⟩
 dsimp only
 gi_wp2_with fail
 have hOB:OutIn w1.heap.size w2:=by
  rw[← hw2]
  refine⟨by simp;omega,fun v hv b hb=>?_⟩
  rw[World.cell?_alloc_lt _ _ _ (by simp;omega),World.cell?_alloc_lt _ _ _ b_38] at hv
  rw[(Boxed.new w1 32 (.slice none 0 0)).cell] at hv
  obtain rfl:=Option.some.inj hv
  simp[Value.ownBlock] at hb
 have hO1:OutIn w1.heap.size (w1.alloc (.cells #[.slice none 0 0] 32)):=⟨by simp,fun v hv b hb=>by
  rw[(Boxed.new w1 32 (.slice none 0 0)).cell] at hv
  obtain rfl:=Option.some.inj hv
  simp[Value.ownBlock] at hb⟩
 have hPT:Prot w1.heap.size w2 (w1.alloc (.cells #[.slice none 0 0] 32)).heap.size (.cells #[rv,bv] 35 (0,0)):=by
  rw[← hw2]
  exact(Prot.new hO1 rfl).kp (KpO.grew (by simp;omega) ((uX _).alloc _))
 have hCI:w2.cell? ⟨(w1.alloc (.cells #[.slice none 0 0] 32)).heap.size+1,0,none⟩=some (.int .i64 id):=by
  rw[← hw2]
  exact(cell_two _ _ _ _).1
 have hBX:Boxed w2 w1.heap.size 32 (.slice none 0 0):=by
  rw[← hw2]
  exact((Boxed.new w1 _ _).alloc _).alloc _
 have hG2:Grew w w2:=by
  rw[← hw2]
  exact((HG1.out.alloc _).alloc _).alloc _
 have hs12:w1.heap.size<w2.heap.size:=hOB.1
 have hs1:w.heap.size≤w1.heap.size:=HG1.out.size
 have hst:=HS.out w1.heap.size (w1.alloc (.cells #[.slice none 0 0] 32)).heap.size ((w1.alloc (.cells #[.slice none 0 0] 32)).heap.size+1) 8 w2 hOB ⟨_,hPT⟩ hCI hG2
 generalize (w1.alloc (.cells #[.slice none 0 0] 32)).heap.size=Tb at hst ⊢
 have hlen:=HLEN.out
 clear hw2 hPT hCI hO1 c0 c1
 refine wpIn_rangeFunc_ownG rfl b_37 (gf:=119) (lb:=#[.pointer (some ⟨Tb,0,none⟩),.pointer (some ⟨Tb+1,0,none⟩)]) rfl trivial (enters_of Tryz.func119 (by kernel_rfl) rfl)
  hst KpB.trans (kpB_put hG2.size hs12) (Below.refl _ _) (fun _=>rfl)
  (fun pre W=>(∃ v,Boxed W w1.heap.size 32 v∧W.ownsRow w.heap.size 3 1 v pre.length ((pre.map Prod.fst).flatMap oneI)∧(v=.slice none 0 0↔pre=[]))∧Below w.heap.size w W)
  (fun _ _ _=>False)
  (OwnFrom.and (Own.from (holdsRow_own w.heap.size w1.heap.size 32 3 1 (fun pre:List (Int × Int)=>pre.length) (fun pre=>(pre.map Prod.fst).flatMap oneI) (fun pre v=>v=.slice none 0 0↔pre=[])) _) (ownFrom_below (Nat.le_refl _) hG2.size))
  (fun _ _ _ _ _ hs _ _=>hs)
  ⟨⟨_,hBX,World.ownsRow_nil _ _ _ _,by simp⟩,hG2⟩
  (fun x=>{ tmps:=#[.agg #[rv,bv],.int .i64 id,.pointer (some ⟨w.heap.size,0,none⟩),undef,.slice none 0 0,.int .i64 0,.int .i64 0,.pointer (some ⟨w1.heap.size,0,none⟩),.int .i64 x.1,.agg #[rv,bv],.int .i64 id,.int .i64 0,.int .i64 0,.bool false,undef,.agg #[rv,bv],.int .i64 id,.func (.func 119) #[] #[.pointer (some ⟨Tb,0,none⟩),.pointer (some ⟨Tb+1,0,none⟩)],.int .i64 x.1,.int .i64 x.2,undef,undef,undef,undef,undef],defers:=[] }) ?assign ?body ?done ?stop
 case assign =>
  intro l x W K hK
  gi_wp2
  exact hK
 case body =>
  rintro l pre x W ⟨⟨v,hv,hrow,hnil⟩,hB⟩ hlt
  have hc:=hv.cell
  gi_wp2_with (gi_at_builtin;refine wpListIn_append_own_at _ rfl _ _ 32 rfl w.heap.size 3 i0 (.int .i64 0) 1 8 Tryz.underlying32 hi hz0 hz1 hz2 rfl b_36 _ _ _ rfl (hrow.alloc _) ⟨W.heap.size,0,none⟩ 1 1 [Value.int .i64 x.1] rfl rfl (cell_one_new _ _ _) (by simp[Value.oneCell']) b_34 b_37 (by have:=hB.size;simp;omega) ?_;intro v' w1' hown' hgrow _ hloc;have hkp:=kpO_append hv b_36 hrow hown' hgrow hloc;obtain⟨g',cap',rfl⟩:=ownsRow_succ hown';obtain⟨hv1,hv2,hr2,hk2,hb2⟩:=hv.appended b_36 hrow hB.size hs1 hown' hgrow;have hc1:=hv1.cell;have hf1:=hv1.frozen)
  exact⟨hk2.from _,⟨hb2,hkp⟩,⟨_,hv2,by simpa [oneI] using hr2,by simp⟩,hB.trans hb2⟩
 case done =>
  rintro D ys W hD rfl ⟨⟨v,hv,hrow,hnil⟩,hB⟩ hK
  have hc:=hv.cell
  gi_wp2
  refine⟨by simp,.inl ⟨_,_,rfl,run_takeDeferred hK,?_⟩⟩
  refine⟨_,results_tmp2 rfl _ _ _,v,rfl,?_,hB.trans (belowK_b (w:=w) (Nat.le_refl _) W D _ _ b_37 hK rfl rfl)⟩
  have:=ownsRow_putObj hrow (.deferred none) hK rfl
  simpa using this
 case stop =>
  rintro D c pre W _ _ h _
  exact h.elim
end Go.Proofs.YtafncfomiolmgaaGreatDoor
namespace Go.Proofs.YtafncfomiolmgaaGreatDoor
open Go.RowKit
theorem app_copyI (l:List Int) (v:Value) (w W:World) (hv:SlI w v l) (hG:Grew w W) (hl:l.length≤1000000):∃ A n c w',(∀ ty,(Builtin.append_ #[32,32] ty #[.slice (some ⟨W.heap.size,0,none⟩) 0 0,v]).run Tryz.prog (W.alloc (.cells #[] 3))=.ok (.slice A n c) w')∧SlI w' (.slice A n c) l∧Grew W w'∧Lies W.heap.size w' (.slice A n c):=by
 obtain⟨i0,hi,hz0,hz1,hz2⟩:=info_parts cinfoI
 have hu:Rd (W.alloc (.cells #[] 3)) 1 v (l.flatMap oneI):=Rd.mono hv (hG.alloc _)
 obtain⟨A,n,c,w',h1,h2,h3,h4⟩:=append_lit (P:=Tryz.prog) (W.alloc (.cells #[] 3)) 32 0 3 i0 (.int .i64 0) 1 8 Tryz.underlying32 hi hz0 hz1 hz2 b_37 W.heap.size v l.length (l.flatMap oneI) hu (by rw[flatMap_len oneI 1 (fun _=>rfl)]) b_34 b_37 W.heap.size (Nat.le_refl _) b_38
 exact⟨A,n,c,w',fun ty=>h1,h2,((uX W).alloc _).trans h3,h4⟩
def RetList (r:List Int) (w:World) (e:Ending) (w':World):Prop:=∃ v,e=.returned v∧SlI w' v r∧Grew w w'∧Fresh w.heap.size v
theorem childs_hit {rs:List Int} {l:List Br} {id:Int} (h0:id≠0) {k:Nat} (hk:k<l.length) (hb:∀ j (hj:j<l.length),j<k→¬ l[j].id=id) (he:l[k].id=id):childs ⟨rs,l⟩ id=l[k].kids:=by
 unfold childs
 rw[if_neg h0]
 show(match brFind l id with|none=>[]|some b=>b.kids)=_
 rw[brFind_hit hk hb he]
theorem childs_miss {rs:List Int} {l:List Br} {id:Int} (h0:id≠0) (hb:∀ j (hj:j<l.length),¬ l[j].id=id):childs ⟨rs,l⟩ id=[]:=by
 unfold childs
 rw[if_neg h0]
 show(match brFind l id with|none=>[]|some b=>b.kids)=_
 rw[brFind_miss hb]
set_option maxHeartbeats 4000000 in
theorem refChildren (rs:List Int) (l:List Br) (id:Int) (rv bv:Value) (w:World) (hr:SlI w rv rs) (hv:SlBr w bv l) (hf:FewBr l) (hrl:rs.length≤1000000):Calls Tryz.prog 98 #[.agg #[rv,bv],.int .i64 id] w (RetList (childs ⟨rs,l⟩ id) w):=by
 have HRS:=uZ hr
 obtain⟨A,c,rfl,hlc,hc,hrr⟩:=hv.open_
 obtain⟨B,d,rfl,hld,hd,-⟩:=hr.open_
 unfold maxLen at hc hd
 have HR:=uZ hrr
 have GB:=uZ ((uX w).alloc (.cells #[.slice B rs.length d,.slice A l.length c] 35))
 by_cases h0:id=0
 ·subst h0
  have e:childs ⟨rs,l⟩ 0=rs:=by unfold childs;rw[if_pos rfl]
  rw[e]
  obtain⟨A1,n1,c1,w1,hrun,s1,g1,l1⟩:=app_copyI rs _ w _ HRS.out GB.out hrl
  rw[World.size_alloc] at hrun
  have S1:=uZ s1
  have L1:=uZ l1
  clear hr hv hrr e s1 l1
  go_enter Tryz.func98,Tryz.ntmps98
  go_wp2_with (at_builtin;refine Lib.wpList_append_run _ rfl _ _ _ _ rfl _ _ rfl rfl _ _ (hrun _) ?_)
  go_ret
  exact⟨_,rfl,S1.out,GB.out.trans g1,fun k hk=>Nat.le_trans GB.out.size (L1.out k hk).1⟩
 ·have h0':(id == 0)=false:=by simpa using h0
  have HF1:=uZ (fun k=>@childs_hit rs l id h0 k)
  have HF2:=uZ (@childs_miss rs l id h0)
  have HFB:=uZ hf
  generalize childs ⟨rs,l⟩ id=O at HF1 HF2 ⊢
  clear hr hv hrr hf h0
  go_enter Tryz.func98,Tryz.ntmps98
  go_wp2
  go_loop [5] (fun i=>∃ k:Nat,k≤l.length∧i=.int .i64 k∧Aside (∀ j (hj:j<l.length),j<k→¬ l[j].id=id)) (fun i=>l.length-(intOf i).toNat)
  case atStart=>exact⟨0,by omega,rfl,(show Aside _ from fun j h h2=>absurd h2 (Nat.not_lt_zero _))⟩
  case round =>
   obtain⟨k,hk,rfl,M⟩:=hrel
   by_cases hlt:k<l.length
   ·have hltz:(k:Int)<(l.length:Int):=by omega
    have h0z:(0:Int)≤(k:Int):=by omega
    obtain⟨b,off,rfl,hb,hcell⟩:=HR.out b_37
    obtain⟨kv,hkv,hcl⟩:=hcell k hlt
    obtain⟨c0,-,-,-,-,c5⟩:=hcl _ GB.out
    have HS:=uZ (HF1.out k hlt M.out)
    have HN:RowKit.Hid (¬ l[k].id=id→∀ j (hj:j<l.length),j<k+1→¬ l[j].id=id):=fun h j hj h2=>by
     exact c_69
    have hkl:=HFB.out.2 k hlt
    obtain⟨A1,n1,c1,w1,hrun,s1,g1,l1⟩:=app_copyI l[k].kids _ w _ hkv GB.out hkl
    rw[World.size_alloc] at hrun
    have c5':=fun t=>uQ ((uX _).alloc (.cells #[] t)) c5
    have S1:=uZ s1
    have L1:=uZ l1
    have tr:=fun t=>uQ ((uX (w.alloc (.cells [.slice B rs.length d,.slice (some ⟨b,off,none⟩) l.length c].toArray 35))).alloc (.cells #[] t)) (yQ (uX (w.alloc (.cells [.slice B rs.length d,.slice (some ⟨b,off,none⟩) l.length c].toArray 35))) 1 _ rfl)
    obtain⟨Ak,ck,rfl,-,-,-⟩:=hkv.open_
    generalize l[k]=y at c0 c5 c5' HS HN S1 hrun
    obtain⟨yi,yp,yl,yt,ym,yk⟩:=y
    dsimp only at c0 c5 c5' HS HN S1 hrun
    clear hcell hcl s1 l1
    by_cases he:yi=id
    ·have hO:=HS.out he
     have he':(yi == id)=true:=by simpa using he
     subst hO
     clear he HS HN M HF1 HF2
     go_wp2_with (at_builtin;refine Lib.wpList_append_run _ rfl _ _ _ _ rfl _ _ rfl rfl _ _ (hrun _) ?_)
     go_ret
     exact⟨_,rfl,S1.out,GB.out.trans g1,fun k hk=>Nat.le_trans GB.out.size (L1.out k hk).1⟩
    ·have he':(yi == id)=false:=by simpa using he
     have Hy:=uZ (HN.out he)
     clear he HS HN M
     exact c_64
   ·have hltz:¬ (k:Int)<(l.length:Int):=by omega
    have hO:=HF2.out (fun j hj=>M.out j hj b_37)
    subst hO
    clear HF1 HF2 M
    go_wp2
    go_ret
    exact⟨_,rfl,SlI.nil _,GB.out,Fresh.nil _ _ _⟩
end Go.Proofs.YtafncfomiolmgaaGreatDoor
namespace Go.Proofs.YtafncfomiolmgaaGreatDoor
open Go.RowKit
set_option maxRecDepth 100000 in
theorem c_11 {p:Prop} (h:p:=by
 clear s6 f6 g2 t0 t1 hr6 HOWN1
 dsimp only
 go_wp2
 go_loopg [5,7] ks.length (fun gg s5 s7 wr=>∃ k:Nat,k≤ks.length∧ks.length-k≤gg∧s7=.int .i64 k∧Aside (UnR (w.alloc (.cells [rv,bv].toArray 35)) (.slice A6 ks.length c6) ks hd g k s5 wr))
 case atStart=>exact⟨0,by omega,by omega,rfl,(show Aside _ from HR0.out)⟩
 case round =>
  obtain⟨k,hk,hgk,rfl,RW⟩:=hrel
  by_cases hlt:k<ks.length
  ·have hltz:(k:Int)<(ks.length:Int):=by omega
   have h0z:(0:Int)≤(k:Int):=by omega
   obtain⟨gr,⟨L,hL,own⟩,kids,off⟩:=RW.out
   obtain⟨As,ns,cs,rfl⟩:=own_slice3 own
   obtain⟨A7,c7,he7,-,-,hr7⟩:=kids.open_
   injection he7 with hA hn7 hc7
   subst hA hc7
   obtain⟨b6,off6,rfl,hb6,hcell6⟩:=hr7 b_37
   have c0:=hcell6 wr (uX _) k hlt
   have t0:=yQ gr 0 _ rfl
   have t1:=yQ gr 1 _ rfl
   have kK:=HK.out ks[k] (List.getElem_mem hlt)
   have hgne:=List.length_pos_iff.2 (HGK.out ks[k] (List.getElem_mem hlt))
   have hnx:=flat_next g ks k hlt
   have hlenN:L.length+(g ks[k]).length≤1000000:=by
    have h1:=HN.out
    rw[flat_split g ks k hlt,← List.append_assoc,hL,List.length_append,List.length_append] at h1
    omega
   have hL2:hd++(ks.take (k+1)).flatMap g=L++g ks[k]:=by rw[hnx,← List.append_assoc,hL]
   have HL2:=uZ hL2
   clear hL hL2
   have HKIDS:=uZ kids
   have HOFF:=uZ off
   have HGR:=uZ gr
   have HOWN:=uZ own
   have HWW:=uZ (show Grew w0 wr from HW.out.trans (((uX w).alloc _).trans gr))
   have HNE:RowKit.Hid (∀ b,Value.ownBlock (.slice As ns cs)=some b→w.heap.size<b∧b≠b6):=fun b hb=>⟨by have:=(own.lt b hb).1;simp at this;omega,fun e=>off b_37 b hb (by rw[e];rfl)⟩
   have hsw:=gr.size
   have T0:=uZ t0
   have T1:=uZ t1
   have C0:=uZ c0
   clear gr own kids off hcell6 hr7 hnx
   generalize ks[k]=y at c0 C0 kK hgne hlenN HL2
   have HKK:=uZ kK
   clear kK c0 t0 t1
   go_wp2_with fail
   go_region_held3 (fun W=>W.cell? ⟨w.heap.size,0,none⟩=some rv∧W.cell? ⟨w.heap.size,1,none⟩=some bv∧W.cell? ⟨b6,off6+k,none⟩=some (.int .i64 y)∧Grew (w.alloc (.cells [rv,bv].toArray 35)) W) (first|exact⟨P0.out,P1.out,P2.out,P3.out⟩|refine heldU wr _ T0.out T1.out C0.out HGR.out (by repeat (first|exact uX wr|exact GG9.out|refine uJ ?_)))
    (first|(go_at_call 146;refine(HKK.out _ (HWW.out.trans (by repeat (first|exact uX wr|refine uJ ?_)))).mono ?_;rintro e w3 ⟨v9,rfl,s9,g9,f9⟩;obtain⟨A9,c9,rfl,hl9,hc9,hr9⟩:=s9.open_;unfold maxLen at hc9;obtain⟨b9,o9,rfl,hb9,hcell9⟩:=hr9 hgne;have HS9:=uZ s9;have GG9:=uZ (show Grew wr w3 from uY (by repeat (first|exact uX wr|refine uJ ?_)) g9);have HK9:=uZ (HKIDS.out.mono GG9.out);have HOWN9:=uZ (own_later HOWN.out GG9.out);have HGR9:=uZ (HGR.out.trans GG9.out);have hsz:=HGR9.out.size;clear hr9 s9 g9 f9 hcell9 HKK)|(refine step_append_lies _ b_39 (.tmp 23) (.tmp 29) 32 b_39 (w.alloc (.cells [rv,bv].toArray 35)).heap.size 3 i0 (.int .i64 0) 1 8 Tryz.underlying32 hi hz0 hz1 hz2 rfl b_37 _ _ _ b_39 HOWN9.out ⟨b9,o9,none⟩ (g y).length c9 ((g y).flatMap oneI) b_39 (flatMap_len oneI 1 (fun _=>rfl) _) (cells_add HS9.out) (one_cellsI _) hgne b_34 b_37 hsz w3.heap.size rfl ?_;intro ga capa wa howna hgra hata hlta;have P0:=uZ (hgra.cell (uQ GG9.out T0.out) (fun e=>by have:=(HNE.out _ e.symm).1;simp at this));have P1:=uZ (hgra.cell (uQ GG9.out T1.out) (fun e=>by have:=(HNE.out _ e.symm).1;simp at this));have P2:=uZ (hgra.cell (uQ GG9.out C0.out) (fun e=>(HNE.out _ e.symm).2 rfl));have P3:=uZ (show Grew (w.alloc (.cells [rv,bv].toArray 35)) wa from Below.grown HGR9.out hgra hsz (fun b e=>(HOWN9.out.lt b e).1));have HR1:=uZ (unStep HL2.out HGR9.out HOWN9.out HK9.out HOFF.out hgra howna hata);clear howna hgra hata hlta))
   go_wp2
   go_roundg (ks.length-(k+1))
   case measure=>omega
   case rel=>exact⟨k+1,by omega,by omega,by go_num,(show Aside _ from HR1.out)⟩
  ·have hltz:¬ (k:Int)<(ks.length:Int):=by omega
   obtain rfl:k=ks.length:=by omega
   obtain⟨gr,⟨L,hL,own⟩,-,-⟩:=RW.out
   rw[List.take_length] at hL
   have HLL:=uZ hL
   clear hL
   have HOWN:=uZ own
   have HGR:=uZ gr
   clear own gr
   go_wp2
   go_ret
   exact⟨_,rfl,by rw[HLL.out];exact Rd.of_own HOWN.out,((uX w).alloc _).trans HGR.out,fun b hb=>by have:=(HOWN.out.lt b hb).1;simp at this;omega⟩):p:=h
structure UnR (w1:World) (v6:Value) (ks:List Int) (hd:List Int) (g:Int→List Int) (k:Nat) (s5:Value) (wr:World):Prop where
 gr:Grew w1 wr
 own:∃ L,hd++(ks.take k).flatMap g=L∧wr.ownsRow w1.heap.size 3 1 s5 L.length (L.flatMap oneI)
 kids:SlI wr v6 ks
 off:0<ks.length→∀ b,s5.ownBlock=some b→v6.ownBlock≠some b
theorem sl_block {w:World} {v:Value} {l:List Int} (h:SlI w v l) (h0:0<l.length):∃ b,v.ownBlock=some b∧b<w.heap.size:=by
 obtain⟨A,c,rfl,-,-,hr⟩:=h.open_
 obtain⟨b,off,rfl,hb,-⟩:=hr h0
 exact⟨b,rfl,hb⟩
theorem sl_off {w w':World} {v:Value} {l:List Int} {row:Option Nat} (h:SlI w v l) (hg:w.grownBy w' row) (hr:0<l.length→∀ b,v.ownBlock=some b→row≠some b):SlI w' v l:=by
 rcases Nat.eq_zero_or_pos l.length with h0|h0
 ·obtain rfl:l=[]:=List.eq_nil_of_length_eq_zero h0
  obtain⟨A,c,rfl,hlc,hcm,-⟩:=h.open_
  exact⟨A,0,c,rfl,by simp,by omega,hcm,fun h=>absurd h (Nat.lt_irrefl _)⟩
 ·exact rd_grown h hg (hr h0)
theorem cells_add {W:World} {b o n c:Nat} {l:List Int} (h:SlI W (.slice (some ⟨b,o,none⟩) n c) l):∀ j u,(l.flatMap oneI)[j]? = some u→W.cell? ((⟨b,o,none⟩:Addr).add j)=some u:=by
 intro j u hj
 obtain⟨A,n',c',hv,hl,_,_,hr⟩:=h
 injection hv with hA hn hc
 subst hA hn hc
 have hlt:=(List.getElem?_eq_some_iff.1 hj).1
 obtain⟨b',o',he,_,hcell⟩:=hr b_37
 injection he with he
 injection he with e1 e2 _
 subst e1 e2
 rw[add_lit]
 exact hcell j u hj
theorem heldU {WB:World} (wr W:World) {p q r:Addr} {x y z:Value} (h:wr.cell? p=some x) (h2:wr.cell? q=some y) (h3:wr.cell? r=some z) (g0:Grew WB wr) (g:Grew wr W):W.cell? p=some x∧W.cell? q=some y∧W.cell? r=some z∧Grew WB W:=⟨uQ g h,uQ g h2,uQ g h3,g0.trans g⟩
theorem own_slice3 {w:World} {base:Nat} {e:TypeId} {k n:Nat} {v:Value} {xs:List Value} (h:w.ownsRow base e k v n xs):∃ A m c,v=.slice A m c:=by
 rcases h.2 with ⟨rfl,_⟩|⟨g,cap,cur,rfl,_⟩
 ·exact⟨_,_,_,rfl⟩
 ·exact⟨_,_,_,rfl⟩
theorem unStep {w1 w3 wa:World} {v6 s5:Value} {ks hd:List Int} {g:Int→List Int} {k ga n n' capa:Nat} {cs:List Value} {L m:List Int} (hL:hd++(ks.take (k+1)).flatMap g=L++m) (hgr:Grew w1 w3) (hown:w3.ownsRow w1.heap.size 3 1 s5 n cs) (hk:SlI w3 v6 ks) (hoff:0<ks.length→∀ b,s5.ownBlock=some b→v6.ownBlock≠some b)
  (hg:w3.grownBy wa s5.ownBlock) (ho:wa.ownsRow w1.heap.size 3 1 (.slice (some ⟨ga,0,none⟩) n' capa) (L.length+m.length) (L.flatMap oneI++m.flatMap oneI)) (hat:s5.ownBlock=some ga∨ga=w3.heap.size):UnR w1 v6 ks hd g (k+1) (.slice (some ⟨ga,0,none⟩) n' capa) wa:=by
 refine⟨Below.grown hgr hg hgr.size (fun b e=>(hown.lt b e).1),⟨_,hL,by rw[List.length_append,List.flatMap_append];exact ho⟩,sl_off hk hg (fun h0 b hb e=>hoff h0 b e hb),fun h0 b hb hb6=>?_⟩
 simp[Value.ownBlock] at hb
 subst hb
 rcases hat with h|h
 ·exact hoff h0 _ h hb6
 ·obtain⟨b,h1,h2⟩:=sl_block hk h0
  rw[hb6] at h1
  injection h1 with h1
  omega
set_option maxHeartbeats 8000000 in
set_option maxRecDepth 100000 in
theorem refUnderBody (rs:List Int) (l:List Br) (rv bv:Value) (w0:World) (hr:SlI w0 rv rs) (hv:SlBr w0 bv l) (hf:FewBr l) (hrl:rs.length≤1000000) (x:Int) (g:Int→List Int) (hgk:∀ k∈childs ⟨rs,l⟩ x,g k≠[])
  (hN:((if x=0 then[] else[x])++(childs ⟨rs,l⟩ x).flatMap g).length≤1000000)
  (hK:∀ k∈childs ⟨rs,l⟩ x,∀ W,Grew w0 W→Calls Tryz.prog 146 #[.agg #[rv,bv],.int .i64 k] W (RetList (g k) W)) (w:World) (hw:Grew w0 w) :
  Calls Tryz.prog 146 #[.agg #[rv,bv],.int .i64 x] w (RetList ((if x=0 then[] else[x])++(childs ⟨rs,l⟩ x).flatMap g) w):=by
 have KC:=uZ (fun W (hW:Grew w0 W)=>refChildren rs l x rv bv W (hr.mono hW) (hv.mono hW) hf hrl)
 have HGK:=uZ hgk
 have HN:=uZ hN
 have HK:=uZ hK
 have HW:=uZ hw
 have hkl:(childs ⟨rs,l⟩ x).length≤1000000:=by
  have h1:∀ ks:List Int,(∀ k∈ks,g k≠[])→ks.length≤(ks.flatMap g).length:=by
   intro ks
   induction ks with
   | nil=>intro _;simp
   | cons k r ih =>
    intro h
    have h2:=ih (fun j hj=>h j (List.mem_cons_of_mem _ hj))
    have h3:0<(g k).length:=List.length_pos_iff.2 (h k (List.mem_cons_self ..))
    rw[List.flatMap_cons,List.length_append,List.length_cons]
    omega
  have h2:=h1 _ hgk
  rw[List.length_append] at hN
  omega
 generalize childs ⟨rs,l⟩ x=ks at KC HGK HN HK hkl ⊢
 obtain⟨i0,hi,hz0,hz1,hz2⟩:=info_parts cinfoI
 clear hr hv hf hrl hgk hN hK hw
 obtain⟨hd,hhd⟩:∃ hd,(if x=0 then[] else[x])=hd:=⟨_,rfl⟩
 rw[hhd] at HN ⊢
 have HHD:=uZ hhd
 clear hhd
 by_cases h0:x=0
 ·have hhd:hd=[]:=by rw[← HHD.out,if_pos h0]
  have hown1:(w.alloc (.cells [rv,bv].toArray 35)).ownsRow (w.alloc (.cells [rv,bv].toArray 35)).heap.size 3 1 (.slice none 0 0) hd.length (hd.flatMap oneI):=by
   rw[hhd]
   exact World.ownsRow_nil _ _ _ _
  subst h0
  clear HHD hhd
  have hg1:=uX (w.alloc (.cells [rv,bv].toArray 35))
  have t0:=yQ hg1 0 _ rfl
  have t1:=yQ hg1 1 _ rfl
  go_enter Tryz.func146,Tryz.ntmps146
  go_wp2_with fail
  have HOWN1:=uZ hown1
  have HG1:=uZ hg1
  have HO1:=uZ (uY ((uX w).alloc (.cells [rv,bv].toArray 35)) hg1)
  clear hown1 hg1
  refine(KC.out _ (HW.out.trans HO1.out)).mono ?_
  rintro e w2 ⟨v6,rfl,s6,g2,f6⟩
  obtain⟨A6,c6,rfl,hl6,hc6,hr6⟩:=s6.open_
  unfold maxLen at hc6
  have HR0:=uZ (show UnR (w.alloc (.cells [rv,bv].toArray 35)) (.slice A6 ks.length c6) ks hd g 0 (.slice none 0 0) w2 from⟨HG1.out.trans g2,⟨hd,by simp,own_later HOWN1.out g2⟩,s6,fun _ b hb hb6=>by have h1:=(HOWN1.out.lt b hb).2;have h2:=f6 b hb6;omega⟩)
  exact c_11
 ·have h0':(x != 0)=true:=by simpa using h0
  have hhd:hd=[x]:=by rw[← HHD.out,if_neg h0]
  have HHX:=uZ hhd
  clear h0 HHD hhd
  go_enter Tryz.func146,Tryz.ntmps146
  go_wp2_with (at_builtin;refine wpList_append_lies _ rfl _ _ 32 rfl (w.alloc (.cells [rv,bv].toArray 35)).heap.size 3 i0 (.int .i64 0) 1 8 Tryz.underlying32 hi hz0 hz1 hz2 rfl b_37 _ 0 [] b_39 (World.ownsRow_nil _ _ _ _) ⟨w.heap.size+1,0,none⟩ 1 1 [.int .i64 x] b_39 rfl (fun j u hj=>by rw[add_lit,Nat.zero_add];have:=yQ (uX ((w.alloc (.cells [rv,bv].toArray 35)).alloc (.cells [Value.int .i64 x].toArray 3))) j u hj;rwa [World.size_alloc] at this) (by simp[Value.oneCell']) b_37 b_34 b_37 b_38 _ rfl ?_;intro ga1 cap1 w1 hown0 hgr1 hat1 hlt1;have hown1:w1.ownsRow (w.alloc (.cells [rv,bv].toArray 35)).heap.size 3 1 (.slice (some ⟨ga1,0,none⟩) 1 cap1) hd.length (hd.flatMap oneI):=(by rw[HHX.out];exact hown0);clear hown0;have hg1:Grew (w.alloc (.cells [rv,bv].toArray 35)) w1:=Below.grown ((uX _).alloc _) hgr1 b_38 (fun k e=>by simp[Value.ownBlock] at e);have t0:=yQ hg1 0 _ rfl;have t1:=yQ hg1 1 _ rfl;clear hgr1 hat1 hlt1)
  have HOWN1:=uZ hown1
  have HG1:=uZ hg1
  have HO1:=uZ (uY ((uX w).alloc (.cells [rv,bv].toArray 35)) hg1)
  clear hown1 hg1
  refine(KC.out _ (HW.out.trans HO1.out)).mono ?_
  rintro e w2 ⟨v6,rfl,s6,g2,f6⟩
  obtain⟨A6,c6,rfl,hl6,hc6,hr6⟩:=s6.open_
  unfold maxLen at hc6
  have HR0:=uZ (show UnR (w.alloc (.cells [rv,bv].toArray 35)) (.slice A6 ks.length c6) ks hd g 0 (.slice (some ⟨ga1,0,none⟩) 1 cap1) w2 from⟨HG1.out.trans g2,⟨hd,by simp,own_later HOWN1.out g2⟩,s6,fun _ b hb hb6=>by have h1:=(HOWN1.out.lt b hb).2;have h2:=f6 b hb6;omega⟩)
  exact c_11
end Go.Proofs.YtafncfomiolmgaaGreatDoor
namespace Go.Proofs.YtafncfomiolmgaaGreatDoor
open Go.RowKit
def parOf (t:Tr) (x:Int):Int:=match brFind t.brs x with
 | none=>-1
 | some b=>b.parent
def filt (t:Tr) (S:List Int) (p:Int):List Int:=S.filter fun x=>parOf t x == p
theorem flatMap_one {g:Int→List Int}:∀ {L:List Int},L.Nodup→∀ {k:Int},k∈L→(∀ j∈L,j≠k→g j=[])→L.flatMap g=g k
 | [],_,k,hk,_=>absurd hk List.not_mem_nil
 | x::r,hn,k,hk,h=>by
  have hn':=List.nodup_cons.1 hn
  rw[List.flatMap_cons]
  rcases List.mem_cons.1 hk with e|hk'
  ·subst e
   have:r.flatMap g=[]:=by
    rw[List.flatMap_eq_nil_iff]
    exact fun j hj=>h j (List.mem_cons_of_mem _ hj) (fun e=>hn'.1 (e▸hj))
   rw[this,List.append_nil]
  ·rw[h x (List.mem_cons_self ..) (fun e=>hn'.1 (e▸hk')),List.nil_append]
   exact flatMap_one hn'.2 hk' fun j hj hne=>h j (List.mem_cons_of_mem _ hj) hne
theorem flatMap_self {g:Int→List Int}:∀ {L:List Int},(∀ j∈L,g j=[j])→L.flatMap g=L
 | [],_=>rfl
 | x::r,h=>by
  rw[List.flatMap_cons,h x (List.mem_cons_self ..),flatMap_self fun j hj=>h j (List.mem_cons_of_mem _ hj)]
  rfl
theorem parOf_in {t:Tr} (h:idsAsc t.brs) {b:Br} (hb:b∈t.brs):parOf t b.id=b.parent:=by
 unfold parOf
 rw[find_byid h hb]
theorem filt_flat (t:Tr) (L:List Int) (g:Int→List Int) (p:Int):filt t (L.flatMap g) p=L.flatMap fun k=>filt t (g k) p:=by
 unfold filt
 rw[List.filter_flatMap]
theorem filt_app (t:Tr) (S T:List Int) (p:Int):filt t (S++T) p=filt t S p++filt t T p:=by
 unfold filt
 rw[List.filter_append]
theorem under_two {l:List Br} (h:idsAsc l) {a b x:Int} (ha:UnderT l a x) (hb:UnderT l b x):UnderT l a b∨UnderT l b a:=by
 induction ha with
 | self=>exact .inr hb
 | @step c hc hp hu ih =>
  by_cases e:c.id=b
  ·exact .inl (by rw[← e];exact UnderT.step hc hp hu)
  ·exact ih (under_parent h hc e hb).2
theorem under_one {t:Tr} (h:SoundM t) {n x:Int} {b c:Br} (hb:b∈t.brs) (hc:c∈t.brs) (hbp:b.parent=n) (hcp:c.parent=n) (h1:UnderT t.brs b.id x) (h2:UnderT t.brs c.id x):b.id=c.id:=by
 obtain⟨r,hr⟩:=h.rank
 have key:∀ {b c:Br},b∈t.brs→c∈t.brs→b.parent=n→c.parent=n→UnderT t.brs b.id c.id→b.id=c.id:=by
  intro b c hb hc hbp hcp hu
  refine Classical.byContradiction fun hne=>?_
  obtain⟨h3,h4⟩:=under_parent h.asc hc (fun e=>hne e.symm) hu
  have h5:=under_rank hr h4
  have h6:=hr b hb (by rw[hbp,← hcp];exact h3)
  rw[hcp] at h5
  rw[hbp] at h6
  omega
 rcases under_two h.asc h1 h2 with hu|hu
 ·exact key hb hc hbp hcp hu
 ·exact(key hc hb hcp hbp hu).symm
theorem not_under_zero {t:Tr} (h:SoundM t) {n:Int} (hn:n≠0):¬ UnderT t.brs n 0:=by
 intro hu
 have key:∀ x,UnderT t.brs n x→x≠0:=by
  intro x hx
  cases hx with
  | self=>exact hn
  | step hb _ _=>exact unit_pos (h.units _ hb)
 exact key 0 hu rfl
theorem kid_in {t:Tr} (h:SoundM t) {n k:Int} (hn:n=0∨∃ b∈t.brs,b.id=n) (hk:k∈childs t n):∃ c∈t.brs,c.parent=n∧c.id=k:=(childs_mem h hn).1 hk
theorem childs_nodup {t:Tr} (h:SoundM t) {n:Int} (hn:n=0∨∃ b∈t.brs,b.id=n):(childs t n).Nodup:=(((sound_parts t).1 h).2 n hn).1
theorem filt_below {t:Tr} (h:SoundM t):∀(f:Nat) (b:Br) (d:Nat),b∈t.brs→deep t.brs t.brs.length b=some d→t.brs.length≤f+d→∀ p,(p=0∨∃ c∈t.brs,c.id=p) →
  (UnderT t.brs b.id p→filt t (belowL t f b.id) p=childs t p)∧(¬ UnderT t.brs b.id p→filt t (belowL t f b.id) p=if b.parent=p then[b.id] else[]):=by
 intro f
 induction f with
 | zero =>
  intro b d hb hd hf p hp
  have hno:childs t b.id=[]:=by
   rw[List.eq_nil_iff_forall_not_mem]
   intro k hk
   obtain⟨c,hc,hcp,_⟩:=kid_in h (.inr ⟨b,hb,rfl⟩) hk
   have h1:=deep_child h hb hc hcp hd
   have h2:=deep_le h.asc hc h1
   omega
  have hpb:=parOf_in h.asc hb
  have hone:filt t (belowL t 0 b.id) p=if b.parent=p then[b.id] else[]:=by
   unfold belowL filt
   rw[List.filter_cons,hpb]
   by_cases e:b.parent=p
   ·simp[e]
   ·simp[e]
  refine⟨fun hu=>?_,fun _=>hone⟩
  rcases under_first h ⟨b,hb,rfl⟩ hu with e|⟨k,hk,_⟩
  ·rw[hone,e,hno,if_neg]
   intro e2
   obtain⟨r,hr⟩:=h.rank
   have h3:=hr b hb (by rw[e2];exact unit_pos (h.units b hb))
   rw[e2] at h3
   omega
  ·rw[hno] at hk
   cases hk
 | succ f ih =>
  intro b d hb hd hf p hp
  have hnb:b.id=0∨∃ c∈t.brs,c.id=b.id:=.inr ⟨b,hb,rfl⟩
  have hpb:=parOf_in h.asc hb
  have hkid:∀ k∈childs t b.id,∃ c∈t.brs,c.parent=b.id∧c.id=k∧(UnderT t.brs k p→filt t (belowL t f k) p=childs t p)∧(¬ UnderT t.brs k p→filt t (belowL t f k) p=if b.id=p then[k] else[]):=by
   intro k hk
   obtain⟨c,hc,hcp,e⟩:=kid_in h hnb hk
   have:=ih c (d+1) hc (deep_child h hb hc hcp hd) b_37 p hp
   rw[e,hcp] at this
   exact⟨c,hc,hcp,e,this⟩
  have hsplit:filt t (belowL t (f+1) b.id) p=(if b.parent=p then[b.id] else[])++(childs t b.id).flatMap fun k=>filt t (belowL t f k) p:=by
   have:belowL t (f+1) b.id=[b.id]++(childs t b.id).flatMap (belowL t f):=rfl
   rw[this,filt_app,filt_flat]
   congr 1
   unfold filt
   rw[List.filter_cons,hpb]
   by_cases e:b.parent=p
   ·simp[e]
   ·simp[e]
  obtain⟨r,hr⟩:=h.rank
  constructor
  ·intro hu
   have hne:b.parent≠p:=by
    intro e
    have h1:=under_rank hr hu
    rcases hp with hp|⟨c,hc,e2⟩
    ·rw[hp] at hu
     exact not_under_zero h (unit_pos (h.units b hb)) hu
    ·have h2:=hr b hb (by rw[e,← e2];exact unit_pos (h.units c hc))
     rw[e] at h2
     omega
   rw[hsplit,if_neg hne,List.nil_append]
   by_cases e:b.id=p
   ·refine(flatMap_self fun k hk=>?_).trans (by rw[e])
    obtain⟨c,hc,hcp,ek,_,h2⟩:=hkid k hk
    rw[h2,if_pos e]
    intro hu2
    have h3:=under_rank hr hu2
    have h4:=hr c hc (by rw[hcp];exact unit_pos (h.units b hb))
    rw[hcp,ek,e] at h4
    omega
   ·rcases under_first h ⟨b,hb,rfl⟩ hu with e2|⟨k,hk,hku⟩
    ·exact absurd e2.symm e
    ·obtain⟨c,hc,hcp,ek,h1,_⟩:=hkid k hk
     rw[flatMap_one (childs_nodup h hnb) hk,h1 hku]
     intro j hj hjk
     obtain⟨c2,hc2,hcp2,ek2,_,h2⟩:=hkid j hj
     rw[h2,if_neg e]
     intro hju
     refine hjk ?_
     rw[← ek,← ek2]
     exact under_one h hc2 hc hcp2 hcp (by rw[ek2];exact hju) (by rw[ek];exact hku)
  ·intro hu
   have e:b.id≠p:=fun e=>hu (by rw[← e];exact UnderT.self)
   rw[hsplit]
   have:((childs t b.id).flatMap fun k=>filt t (belowL t f k) p)=[]:=by
    rw[List.flatMap_eq_nil_iff]
    intro k hk
    obtain⟨c,hc,hcp,ek,_,h2⟩:=hkid k hk
    rw[h2,if_neg e]
    intro hku
    refine hu (under_trans ?_ hku)
    rw[← ek]
    exact UnderT.step hc (by rw[hcp];exact unit_pos (h.units b hb)) (by rw[hcp];exact UnderT.self)
   rw[this,List.append_nil]
theorem root_of {t:Tr} (h:SoundM t) {x:Int} (hx:∃ b∈t.brs,b.id=x):∃ r∈t.roots,UnderT t.brs r x:=by
 obtain⟨r,hr⟩:=h.rank
 have key:∀ n (b:Br),b∈t.brs→r b.id≤n→∃ k∈t.roots,UnderT t.brs k b.id:=by
  intro n
  induction n with
  | zero =>
   intro b hb hn
   by_cases hp:b.parent=0
   ·exact⟨b.id,(h.roots.2 _).2 ⟨b,hb,hp,rfl⟩,UnderT.self⟩
   ·have:=hr b hb hp
    omega
  | succ n ih =>
   intro b hb hn
   by_cases hp:b.parent=0
   ·exact⟨b.id,(h.roots.2 _).2 ⟨b,hb,hp,rfl⟩,UnderT.self⟩
   ·have h1:=hr b hb hp
    rcases parent_there h hb with e|⟨c,hc,e⟩
    ·exact absurd e hp
    ·obtain⟨k,hk,hku⟩:=ih c hc (by rw[e];omega)
     exact⟨k,hk,UnderT.step hb hp (by rw[← e];exact hku)⟩
 obtain⟨b,hb,e⟩:=hx
 obtain⟨k,hk,hku⟩:=key (r b.id) b hb (Nat.le_refl _)
 exact⟨k,hk,by rw[← e];exact hku⟩
theorem childs_zero (t:Tr):childs t 0=t.roots:=by
 unfold childs
 rw[if_pos rfl]
theorem filt_all {t:Tr} (h:SoundM t) (p:Int) (hp:p=0∨∃ b∈t.brs,b.id=p):filt t (belowT t 0) p=childs t p:=by
 have hroot:∀ k∈t.roots,∃ c∈t.brs,c.parent=0∧c.id=k∧(UnderT t.brs k p→filt t (belowL t t.brs.length k) p=childs t p)∧(¬ UnderT t.brs k p→filt t (belowL t t.brs.length k) p=if 0=p then[k] else[]):=by
  intro k hk
  obtain⟨c,hc,hcp,e⟩:=(h.roots.2 k).1 hk
  obtain⟨d,hd,_⟩:=deep_some h hc
  have:=filt_below h t.brs.length c d hc hd b_37 p hp
  rw[e,hcp] at this
  exact⟨c,hc,hcp,e,this⟩
 unfold belowT
 rw[if_pos rfl,filt_flat]
 rcases hp with hp|hp
 ·subst hp
  rw[childs_zero]
  refine flatMap_self fun k hk=>?_
  obtain⟨c,hc,hcp,ek,_,h2⟩:=hroot k hk
  rw[h2,if_pos rfl]
  rw[← ek]
  exact not_under_zero h (unit_pos (h.units c hc))
 ·obtain⟨k,hk,hku⟩:=root_of h hp
  obtain⟨c,hc,hcp,ek,h1,_⟩:=hroot k hk
  rw[flatMap_one h.roots.1 hk,h1 hku]
  intro j hj hjk
  obtain⟨c2,hc2,hcp2,ek2,_,h2⟩:=hroot j hj
  obtain⟨b,hb,e⟩:=hp
  rw[h2,if_neg]
  ·rw[← e]
   exact fun e2=>unit_pos (h.units b hb) e2.symm
  ·intro hju
   refine hjk ?_
   rw[← ek,← ek2]
   exact under_one h hc2 hc hcp2 hcp (by rw[ek2];exact hju) (by rw[ek];exact hku)
theorem all_mem_iff {t:Tr} (h:SoundM t) (x:Int):x∈belowT t 0↔∃ b∈t.brs,b.id=x:=by
 constructor
 ·intro hx
  unfold belowT at hx
  rw[if_pos rfl] at hx
  obtain⟨k,hk,hx⟩:=List.mem_flatMap.1 hx
  obtain⟨c,hc,_,e⟩:=(h.roots.2 k).1 hk
  obtain⟨d,hd,_⟩:=deep_some h hc
  rw[← e] at hx
  exact under_there ⟨c,hc,rfl⟩ ((mem_belowL h _ c d hc hd b_37 x).1 hx)
 ·rintro ⟨b,hb,e⟩
  have h1:=filt_all h b.parent (parent_there h hb)
  have h2:x∈childs t b.parent:=(childs_mem h (parent_there h hb)).2 ⟨b,hb,rfl,e⟩
  rw[← h1] at h2
  exact(List.mem_filter.1 h2).1
theorem all_nodup {t:Tr} (h:SoundM t):(belowT t 0).Nodup:=by
 rw[List.nodup_iff_count]
 intro x
 by_cases hx:x∈belowT t 0
 ·obtain⟨b,hb,e⟩:=(all_mem_iff h x).1 hx
  have h1:=filt_all h b.parent (parent_there h hb)
  have h2:=childs_nodup h (parent_there h hb)
  rw[← h1] at h2
  have h3:=List.nodup_iff_count.1 h2 x
  unfold filt at h3
  rw[List.count_filter (by rw[← e,parOf_in h.asc hb];simp)] at h3
  exact h3
 ·rw[List.count_eq_zero.2 hx]
  omega
def ParFirst (t:Tr) (q:Int) (L:List Int):Prop:=∀ pre x post,L=pre++x::post→parOf t x=q∨parOf t x∈pre
theorem ParFirst.nil (t:Tr) (q:Int):ParFirst t q []:=fun pre x post e=>by simp at e
end Go.Proofs.YtafncfomiolmgaaGreatDoor
namespace Go.Proofs.YtafncfomiolmgaaGreatDoor
open Go.RowKit
theorem nodup_of_filt {t:Tr} {L:List Int} (h:∀ x∈L,(filt t L (parOf t x)).Nodup):L.Nodup:=by
 rw[List.nodup_iff_count]
 intro x
 by_cases hx:x∈L
 ·have h3:=List.nodup_iff_count.1 (h x hx) x
  unfold filt at h3
  rw[List.count_filter b_38] at h3
  exact h3
 ·rw[List.count_eq_zero.2 hx]
  omega
theorem below_nodup {t:Tr} (h:SoundM t) (f:Nat) (b:Br) (d:Nat) (hb:b∈t.brs) (hd:deep t.brs t.brs.length b=some d) (hf:t.brs.length≤f+d):(belowL t f b.id).Nodup:=by
 refine nodup_of_filt (t:=t) fun x hx=>?_
 obtain⟨c,hc,e⟩:=under_there ⟨b,hb,rfl⟩ ((mem_belowL h f b d hb hd hf x).1 hx)
 rw[← e,parOf_in h.asc hc]
 have hp:=parent_there h hc
 obtain⟨h1,h2⟩:=filt_below h f b d hb hd hf c.parent hp
 by_cases hu:UnderT t.brs b.id c.parent
 ·rw[h1 hu]
  exact childs_nodup h hp
 ·rw[h2 hu]
  split<;>simp
theorem belowL_len {t:Tr} (h:SoundM t) (f:Nat) (b:Br) (d:Nat) (hb:b∈t.brs) (hd:deep t.brs t.brs.length b=some d) (hf:t.brs.length≤f+d):(belowL t f b.id).length≤t.brs.length:=by
 have h1:=List.Nodup.length_le_of_subset (l₂:=t.brs.map Br.id) (below_nodup h f b d hb hd hf) (fun x hx=>by
  obtain⟨c,hc,e⟩:=under_there ⟨b,hb,rfl⟩ ((mem_belowL h f b d hb hd hf x).1 hx)
  exact List.mem_map.2 ⟨c,hc,e⟩)
 rwa [List.length_map] at h1
theorem below_len {t:Tr} (h:SoundM t) (id:Int) (hid:id=0∨∃ b,brFind t.brs id=some b):(belowT t id).length≤t.brs.length:=by
 by_cases h0:id=0
 ·subst h0
  have h1:=List.Nodup.length_le_of_subset (l₂:=t.brs.map Br.id) (all_nodup h) (fun x hx=>by
   obtain⟨c,hc,e⟩:=(all_mem_iff h x).1 hx
   exact List.mem_map.2 ⟨c,hc,e⟩)
  rwa [List.length_map] at h1
 ·obtain⟨b,hb⟩:=hid.resolve_left h0
  have hin:=find_in hb
  obtain⟨d,hd,_⟩:=deep_some h hin.1
  unfold belowT
  rw[if_neg h0,← hin.2]
  exact belowL_len h _ b d hin.1 hd b_37
theorem belowL_ne (t:Tr) (f:Nat) (x:Int):belowL t f x≠[]:=by cases f<;>simp[belowL]
end Go.Proofs.YtafncfomiolmgaaGreatDoor