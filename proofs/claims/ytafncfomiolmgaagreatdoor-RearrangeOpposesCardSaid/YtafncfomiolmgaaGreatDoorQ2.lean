/- Lemmas on what the functions of the program and of the library compute: InsI, InsB, Nest, PlainN, PlainR, PlainT, PlainH, Shelf2, Shelf. The conditions stand at each. -/
import Derived.Test.YtafncfomiolmgaaGreatDoorQ1
import Derived.Shelf.GgClosure.StringsIndexFunc
import Derived.Lib.IndexMore
import Derived.Test.YtafncfomiolmgaaGreatDoorProg
import Derived.Shelf.Small.Bits
import Derived.Shelf.Small.Wraps
import Derived.Shelf.LaysM
import Derived.Shelf.Strconv.Itoa3
import Derived.Shelf.Strings.Search3
import Derived.Shelf.Sort.Plain
import Derived.Shelf.Strings.FuncGrows
import Derived.Shelf.Slices.Reverse
import Derived.Ground.Names2Prog
import Derived.Shelf.Slices.CompactI
import Derived.Shelf.Slices.SearchI
import Derived.Shelf.Slices.In.SortNone
namespace Go.Proofs.YtafncfomiolmgaaGreatDoor
open Go.RowKit
set_option maxRecDepth 100000 in
theorem c_45 {p:Prop} (h:p:=by
 go_enter Tryz.func137,Tryz.ntmps137
 go_wp2_with (at_builtin;refine wpList_append_lies _ rfl _ _ 32 rfl w0.heap.size 3 i0 (.int .i64 0) 1 8 Tryz.underlying32 hi hz0 hz1 hz2 rfl b_37 _ _ _ b_39 HO.out ⟨vb,0,none⟩ 1 1 xc b_39 HX.out (fun j u hj=>by rw[add_lit];exact HV.out j u hj) H1.out b_37 b_34 b_37 hG.size w.heap.size rfl ?_;intro g3 cap3 w3 hown3 hgr3 hat3 hlt3)
 go_ret
 exact⟨_,rfl,hown3,hgr3,hat3.imp (fun h=>h.symm) (fun h b hb=>by simp[Value.ownBlock] at hb;omega)⟩):p:=h
set_option maxRecDepth 100000 in
theorem c_62 {p:Prop} (h:p:=by
 rw[HC.out,List.append_assoc,← HPQ.out.1,List.getElem?_append_right b_37,Nat.add_sub_cancel_left,List.getElem?_append_left (List.getElem?_eq_some_iff.1 hj).1]
 exact hj):p:=h
def RetRow3 (e:TypeId) (k:Nat) (cs:List Value) (n base:Nat) (s:Value) (w:World) (x:Ending) (w':World):Prop:=∃ v,x=.returned v∧w'.ownsRow base e k v n cs∧w.grownBy w' s.ownBlock∧(v.ownBlock=s.ownBlock∨∀ b,v.ownBlock=some b→w.heap.size≤b)
theorem grown_of {w0 w w':World} {g:Nat} {o:Obj} (h:Grew w0 w) (h':Grew w0 w') (hg:w'.heap[g]? = some o) (hk:∀ b,b≠g→w'.heap[b]? = w.heap[b]?):w.grownBy w' (some g):=by
 refine⟨h'.os.trans h.os.symm,h'.tape.trans h.tape.symm,h'.output.trans h.output.symm,?_,fun k _ hne=>hk k (fun e=>hne (by rw[e]))⟩
 refine Nat.le_of_not_lt fun hlt=>?_
 have hgl:=(Array.getElem?_eq_some_iff.1 hg).1
 have h1:=hk w'.heap.size b_37
 rw[Array.getElem?_eq_none (Nat.le_refl _),Array.getElem?_eq_getElem hlt] at h1
 cases h1
theorem grown_grew {w w':World} (h:Grew w w') (row:Option Nat):w.grownBy w' row:=⟨h.os,h.tape,h.output,h.size,fun k hk _=>h.block k hk⟩
theorem grew_trans_grown {a b c:World} {row:Option Nat} (h:Grew a b) (k:b.grownBy c row):a.grownBy c row:=(grown_grew h row).trans k
theorem own_splice {w:World} {g base n cap k:Nat} {e:TypeId} {cur xs:List Value} (hb:base≤g) (hg:w.heap[g]? = some (.cells cur.toArray e (0,0))) (hn:n≤cap) (hc:cap≤maxLen) (hs:cur.length=cap*k) (hx:xs.length=n*k) (ht:∃ r,cur=xs++r):w.ownsRow base e k (.slice (some ⟨g,0,none⟩) n cap) n xs:=by
 obtain⟨r,rfl⟩:=ht
 refine⟨hx,.inr ⟨g,cap,_,rfl,hb,hg,hn,hc,by simpa using hs,?_⟩⟩
 rw[← hx]
 simp
theorem sizeI (w:World):(Go.sizeOf 3).run Tryz.prog w=.ok 1 w:=by kernel_rfl
theorem infoSzI:(Tryz.prog.info? 3).map (·.size)=some 1:=by kernel_rfl
theorem overlapsI (w:World) (g vb o:Nat) (hne:vb≠g) (cur xc:List Value) (hg:w.heap[g]? = some (.cells cur.toArray 3 (0,0))) (hv:w.heap[vb]? = some (.cells xc.toArray 3 (0,0))) (hpos:0<cur.length) (lb cb:Nat) :
  (callFunc 173 #[.slice (some ⟨vb,0,none⟩) 1 1,.slice (some ⟨g,o,none⟩) lb cb]).run Tryz.prog w=.ok (.value (.bool false)) w:=by
 rw[run_callFunc_extern Tryz.func173 (by kernel_rfl) (by kernel_rfl) (by kernel_rfl) (e:=Extern.SlicesOverlaps.overlaps #[32,32] #[4]) (by kernel_rfl),
  Lib.run_overlaps_apart w 32 4 3 Tryz.underlying32 1 sizeI ⟨vb,0,none⟩ ⟨g,o,none⟩ 1 1 lb cb hne 3 3 xc.toArray.size cur.toArray.size (by simp[World.shape?,hv]) (by simp[World.shape?,hg]) (by simp only [List.size_toArray];omega) (by simp[World.frozen?,hv]) (by simp[World.frozen?,hv])]
 rfl
set_option maxHeartbeats 4000000 in
set_option maxRecDepth 100000 in
theorem insShiftI (w0:World) (g cap n i vb:Nat) (cur p q r xc:List Value) (w:World) (hi:i<n) (hroom:n+1≤cap) (hc:cap≤maxLen) (hne:vb≠g) (hG:Grew w0 w) (hbg:w0.heap.size≤g)
  (hg:w.heap[g]? = some (.cells cur.toArray 3 (0,0))) (hcur:cur=p++q++r) (hp:p.length=i) (hq:q.length=(n-i)) (hr:1≤r.length) (hcl:cur.length=cap)
  (hv:w.heap[vb]? = some (.cells xc.toArray 3 (0,0))) (hx:xc.length=1) (h1c:∀ v∈q,v.oneCell'=true) (h1x:∀ v∈xc,v.oneCell'=true) :
  Calls Tryz.prog 137 #[.slice (some ⟨g,0,none⟩) n cap,.int .i64 i,.slice (some ⟨vb,0,none⟩) 1 1] w (RetRow3 3 1 (p++xc++q) (n+1) w0.heap.size (.slice (some ⟨g,0,none⟩) n cap) w):=by
 have hlen:cur.length=i+(n-i)+r.length:=by rw[hcur];simp only [List.length_append,hp,hq]
 unfold maxLen at hc
 have hov:=fun lb cb=>overlapsI w g vb ((i+1)) hne cur xc hg hv b_37 lb cb
 have hz1:¬ ((i:Int)=(n:Int)):=by omega
 have hb2:¬ (cap=i+1):=by omega
 have hb3:(i:Int)≤(n:Int)+1:=by omega
 have hb4:¬ (cap=i):=by omega
 have hin:i≤n:=by omega
 have HG0:=uZ hg
 have HV:=uZ hv
 have HC:=uZ hcur
 have HPQ:=uZ (show p.length=i∧q.length=(n-i)∧1≤r.length∧xc.length=1 from⟨hp,hq,hr,hx⟩)
 have H1:=uZ (show(∀ v∈q,v.oneCell'=true)∧(∀ v∈xc,v.oneCell'=true) from⟨h1c,h1x⟩)
 have HCL:=uZ hcl
 clear hg hv hcur hp hq hr hx h1c h1x hlen hcl
 go_enter Tryz.func137,Tryz.ntmps137
 go_wp2_with (simp only [hov])
 have hw1:IntKind.i64.wrap ((i:Int)+1)=(i:Int)+1:=IntWalk.i64_in _ b_37
 have hb1:(0:Int)≤(i:Int)+1:=by omega
 have htn:((i:Int)+1).toNat=i+1:=by omega
 have hb5:(i:Int)+1≤(n:Int)+1:=by omega
 have h0i:(0:Int)≤(i:Int):=by omega
 refine region_still_tail 8 (by kernel_rfl) (by kernel_rfl) ?_
 simp only [List.take_succ_cons,List.take_zero,List.drop_succ_cons,List.drop_zero]
 iterate 8 still_step
 clear hw1 hb1 htn hb5
 refine wpStill_nil ?_
 refine copyK rfl _ _ 32 32 rfl 3 Tryz.underlying32 1 infoSzI g ((i+1)) (n-i) (cap-(i+1)) ⟨g,i,none⟩ (n+1-i) (cap-i) b_39 b_39 cur 3 (by have:=HG0.out;exact this) q ?_ ?_ ?_ ?_ w0 (by exact hG.drew) hbg ?_
 ·rw[HPQ.out.2.1]
  congr 1
  simp only [Nat.min_def]
  split<;>omega
 ·intro j v hj
  rw[add_lit]
  refine cells_at HG0.out (i+j) v ?_
  exact c_62
 ·have h1:=HPQ.out
  rw[HC.out]
  simp only [List.length_append]
  omega
 ·exact fun v hv=>H1.out.1 v hv
 intro w1 HG1 HW1 HK1
 have hvb1:w1.heap[vb]? = some (.cells xc.toArray 3 (0,0)):=(HK1.out vb hne).trans HV.out
 obtain⟨w2,hrun,hg2,hG2,hk2⟩:=copy_run (P:=Tryz.prog) w1 32 32 3 Tryz.underlying32 1 infoSzI g (i) (n+1-i) (cap-i) ⟨vb,0,none⟩ 1 1 _ 3 HG1.out xc (by
   rw[HPQ.out.2.2.2]
   have:Nat.min 1 (n+1-i)=1:=by simp only [Nat.min_def];split<;>omega
   rw[this]) (fun j v hj=>by rw[add_lit,Nat.zero_add];exact cells_at hvb1 j v hj) (by
   have h1:=HPQ.out
   rw[length_splice _ _ _ b_24,HC.out]
   simp only [List.length_append]
   omega) H1.out.2 w0 HW1.out hbg
 have HFin:RowKit.Hid (w2.ownsRow w0.heap.size 3 1 (.slice (some ⟨g,0,none⟩) (n+1) cap) (n+1) (p++xc++q)):=by
  have h1:=HPQ.out
  have hs:=splice_shift p q r xc b_37
  rw[h1.1,h1.2.2.2,← HC.out,show i+1=(i+1) by omega] at hs
  refine own_splice hbg hg2 b_37 b_34 ?_ (by simp only [List.length_append];omega) ⟨_,hs⟩
  rw[length_splice _ _ _ (by rw[length_splice _ _ _ b_24,HC.out];simp only [List.length_append];omega),length_splice _ _ _ b_24]
  have:=HCL.out
  omega
 have HGR:=uZ (grown_of hG hG2 hg2 (fun b hb=>(hk2 b hb).trans (HK1.out b hb)))
 clear hg2 hG2 hvb1 hk2
 go_wp2
 go_ret
 exact⟨_,rfl,HFin.out,HGR.out,.inl rfl⟩
theorem zerosI (w:World) (g cap n i:Nat) (cur p q:List Value) (hi:i<n) (hnc:n≤cap) (hroom:cap<n+1) (hn:n≤1000000) (hg:w.heap[g]? = some (.cells cur.toArray 3 (0,0))) (hcur:∃ r,cur=p++q++r) (hp:p.length=i) :
  ∃(G:Nat) (Z:List Value) (w1:World),(∀ ty,(Builtin.append_ #[32,3] ty #[.slice (some ⟨g,0,none⟩) i cap,.int .i64 ((n:Int)+1-(i:Int))]).run Tryz.prog w=.ok (.slice (some ⟨w.heap.size,0,none⟩) (n+1) G) w1) ∧
   n+1≤G∧G≤maxLen∧w1.heap[w.heap.size]? = some (.cells (p++Z).toArray 3 (0,0))∧(n+1-i)≤Z.length∧i+Z.length=G∧Grew w w1:=by
 obtain⟨i0,hi0,hz0,hz1,hz2⟩:=info_parts cinfoI
 obtain⟨r,hcur⟩:=hcur
 have hkk:(n:Int)+1-(i:Int)=((n+1-i:Nat):Int):=by omega
 have hik:i+(n+1-i)=n+1:=by omega
 have hold:(Builtin.firstCells i0.size i (.slice (some ⟨g,0,none⟩) i cap)).run Tryz.prog w.drew=.ok p.toArray w.drew:=by
  rw[hz1]
  refine run_firstCells_some w.drew 1 i ⟨g,0,none⟩ i cap p b_37 (fun j v hj=>?_)
  rw[add_lit,Nat.zero_add]
  refine cells_at (w:=w.drew) hg j v ?_
  rw[hcur,List.append_assoc,List.getElem?_append_left (List.getElem?_eq_some_iff.1 hj).1]
  exact hj
 have h:=fun ty=>Lib.run_append_grow_zeros w 32 3 ty 3 i0 _ .i64 .i64 Tryz.underlying32 Tryz.underlying3 hi0 hz0 (some ⟨g,0,none⟩) i cap p hold (n+1-i) b_37 b_37 b_37 b_37 (by rw[hz2];omega) (by rw[hz2,hik];exact growslice_fits hroom b_37)
 simp only [hik] at h
 rw[hkk]
 obtain⟨ZC,hZC⟩:∃ ZC,ZC=(Value.int .i64 0).cells:=⟨_,rfl⟩
 have hZs:ZC.size=1:=by rw[hZC];rfl
 rw[← hZC] at h
 refine⟨_,(Builtin.zeroCells ZC (n+1-i)++Builtin.zeroCells ZC (grownCap w (n+1) cap 3-(n+1))).toList,_,h,grownCap_ge w _ _ _,grownCap_le_maxLen w (n+1) cap _ b_34,?_,?_,?_,(uX w).drew.alloc _⟩
 ·have:=heap_alloc_last w.drew (.cells (p.toArray++Builtin.zeroCells ZC (n+1-i)++Builtin.zeroCells ZC (grownCap w (n+1) cap 3-(n+1))) 3 (0,0))
  rw[show(p++(Builtin.zeroCells ZC (n+1-i)++Builtin.zeroCells ZC (grownCap w (n+1) cap 3-(n+1))).toList).toArray=p.toArray++Builtin.zeroCells ZC (n+1-i)++Builtin.zeroCells ZC (grownCap w (n+1) cap 3-(n+1)) by simp[Array.append_assoc]]
  exact this
 ·simp[Builtin.zeroCells,hZs]
 ·have h9:=grownCap_ge w (n+1) cap 3
  simp only [Builtin.zeroCells,hZs,Array.toList_append,List.length_append,Array.length_toList,Array.size_map,Array.size_range]
  omega
set_option maxHeartbeats 4000000 in
set_option maxRecDepth 100000 in
theorem insGrowI (w0:World) (g cap n i vb:Nat) (cur p q r xc:List Value) (w:World) (hi:i<n) (hnc:n≤cap) (hroom:cap<n+1) (hn:n≤1000000) (hG:Grew w0 w)
  (hg:w.heap[g]? = some (.cells cur.toArray 3 (0,0))) (hcur:cur=p++q++r) (hp:p.length=i) (hq:q.length=(n-i))
  (hv:w.heap[vb]? = some (.cells xc.toArray 3 (0,0))) (hx:xc.length=1) (h1c:∀ v∈q,v.oneCell'=true) (h1x:∀ v∈xc,v.oneCell'=true) :
  Calls Tryz.prog 137 #[.slice (some ⟨g,0,none⟩) n cap,.int .i64 i,.slice (some ⟨vb,0,none⟩) 1 1] w (RetRow3 3 1 (p++xc++q) (n+1) w0.heap.size (.slice (some ⟨g,0,none⟩) n cap) w):=by
 obtain⟨G,Z,w1,hrun1,hG1,hG2,hh1,hZ,hZl,hgr1⟩:=zerosI w g cap n i cur p q hi hnc hroom hn hg ⟨r,hcur⟩ hp
 unfold maxLen at hG2
 have hglt:g<w.heap.size:=(Array.getElem?_eq_some_iff.1 hg).1
 have hvlt:vb<w.heap.size:=(Array.getElem?_eq_some_iff.1 hv).1
 have hv1:w1.heap[vb]? = some (.cells xc.toArray 3 (0,0)):=(hgr1.block vb hvlt).trans hv
 have hg1:w1.heap[g]? = some (.cells cur.toArray 3 (0,0)):=(hgr1.block g hglt).trans hg
 have hmin:Nat.min 1 (n+1-i)=1:=by simp only [Nat.min_def];split<;>omega
 obtain⟨w2,hrun2,hh2,hgr2,hk2⟩:=copy_run (P:=Tryz.prog) w1 32 32 3 Tryz.underlying32 1 infoSzI w.heap.size (i) (n+1-i) (G-i) ⟨vb,0,none⟩ 1 1 _ 3 hh1 xc (by rw[hx,hmin]) (fun j v hj=>by rw[add_lit,Nat.zero_add];exact cells_at hv1 j v hj) (by rw[List.length_append,hp,hx];omega) h1x w hgr1 (Nat.le_refl _)
 have hg2:w2.heap[g]? = some (.cells cur.toArray 3 (0,0)):=(hk2 g b_37).trans hg1
 have hz1:¬ ((i:Int)=(n:Int)):=by omega
 have hz3:(cap:Int)<(n:Int)+1:=by omega
 have hb2:¬ (G=i+1):=by omega
 have hb3:(i:Int)≤(n:Int)+1:=by omega
 have hb4:¬ (cap=i):=by omega
 have hb5:¬ (G=i):=by omega
 have hin:i≤n:=by omega
 have hin2:(i:Int)≤(n:Int):=by omega
 have HR2:=uZ (show w2.heap[w.heap.size]? = _∧w2.heap[g]? = _∧Grew w w2 from⟨hh2,hg2,hgr2⟩)
 have HC:=uZ hcur
 have HPQ:=uZ (show p.length=i∧q.length=(n-i)∧xc.length=1∧(n+1-i)≤Z.length∧i+Z.length=G from⟨hp,hq,hx,hZ,hZl⟩)
 have H1:=uZ (show(∀ v∈q,v.oneCell'=true)∧(∀ v∈xc,v.oneCell'=true) from⟨h1c,h1x⟩)
 clear hg hv hcur hp hq hx h1c h1x hh1 hZ hZl hgr1 hv1 hg1 hmin hh2 hgr2 hk2 hg2 hglt hvlt
 obtain⟨H,hH⟩:∃ H,H=w.heap.size:=⟨_,rfl⟩
 rw[← hH] at HR2 hrun1 hrun2
 have HH:=uZ hH
 clear hH
 go_enter Tryz.func137,Tryz.ntmps137
 go_wp2_with (at_builtin;refine Lib.wpList_append_run _ rfl _ _ _ _ rfl _ _ rfl rfl _ _ (hrun1 _) ?_)
 have hw1:IntKind.i64.wrap ((i:Int)+1)=(i:Int)+1:=IntWalk.i64_in _ b_37
 have hb6:(0:Int)≤(i:Int)+1:=by omega
 have htn:((i:Int)+1).toNat=i+1:=by omega
 have hb7:(i:Int)+1≤(n:Int)+1:=by omega
 have h0i:(0:Int)≤(i:Int):=by omega
 refine region_still_tail 8 (by kernel_rfl) (by kernel_rfl) ?_
 simp only [List.take_succ_cons,List.take_zero,List.drop_succ_cons,List.drop_zero]
 iterate 8 still_step
 clear hw1 hb6 htn hb7
 refine wpStill_nil ?_
 refine copyK rfl _ _ 32 32 rfl 3 Tryz.underlying32 1 infoSzI H ((i+1)) (n-i) (G-(i+1)) ⟨g,i,none⟩ (n-i) (cap-i) b_39 b_39 _ 3 (by have:=HR2.out.1;exact this) q ?_ ?_ ?_ ?_ w (by exact HR2.out.2.2.drew) (by rw[HH.out];exact Nat.le_refl _) ?_
 ·rw[HPQ.out.2.1]
  congr 1
  simp only [Nat.min_def]
  split<;>omega
 ·intro j v hj
  rw[add_lit]
  refine cells_at (w:=w2.drew) HR2.out.2.1 (i+j) v ?_
  exact c_62
 ·have h1:=HPQ.out
  rw[length_splice _ _ _ (by rw[List.length_append];omega),List.length_append]
  omega
 ·exact fun v hv=>H1.out.1 v hv
 intro w3 HG3 HW3 HK3
 have HFin:RowKit.Hid (w3.ownsRow w0.heap.size 3 1 (.slice (some ⟨H,0,none⟩) (n+1) G) (n+1) (p++xc++q)):=by
  have h1:=HPQ.out
  have hs:=splice_new p q Z xc
  rw[h1.1,h1.2.2.1,show i+1=(i+1) by omega] at hs
  refine own_splice (by rw[HH.out];exact hG.size) HG3.out b_37 b_34 ?_ (by simp only [List.length_append];omega) ⟨_,hs⟩
  rw[length_splice _ _ _ (by rw[length_splice _ _ _ (by rw[List.length_append];omega),List.length_append];omega),length_splice _ _ _ (by rw[List.length_append];omega),List.length_append,h1.1]
  have:=h1.2.2.2.2
  omega
 go_wp2
 go_ret
 exact⟨_,rfl,HFin.out,grown_grew HW3.out _,.inr fun b hb=>by simp[Value.ownBlock] at hb;rw[← hb,HH.out];exact Nat.le_refl _⟩
set_option maxHeartbeats 4000000 in
set_option maxRecDepth 100000 in
theorem insEndI (w0:World) (n vb:Nat) (xs xc:List Value) (v:Value) (w:World) (hown:w.ownsRow w0.heap.size 3 1 v n xs) (hG:Grew w0 w) (hl:n≤1000000)
  (hv:w.heap[vb]? = some (.cells xc.toArray 3 (0,0))) (hx:xc.length=1) (h1x:∀ v∈xc,v.oneCell'=true) :
  Calls Tryz.prog 137 #[v,.int .i64 n,.slice (some ⟨vb,0,none⟩) 1 1] w (RetRow3 3 1 (xs++xc) (n+1) w0.heap.size v w):=by
 obtain⟨i0,hi,hz0,hz1,hz2⟩:=info_parts cinfoI
 have HO:=uZ hown
 have HV:=uZ (fun j u hj=>(by rw[Nat.zero_add];exact cells_at hv j u hj:w.cell? ⟨vb,0+j,none⟩=some u))
 have HX:=uZ (show xc.length=1*1 from hx)
 have H1:=uZ h1x
 have hf:∃(A:Option Addr) (c:Nat),v=.slice A n c∧n≤c∧c≤maxLen∧(A=none→n=0∧c=0):=by
  rcases hown.2 with ⟨rfl,rfl⟩|⟨g,cap,cur,rfl,_,_,h1,h2,_⟩
  ·exact⟨_,_,rfl,Nat.le_refl _,Nat.zero_le _,fun _=>⟨rfl,rfl⟩⟩
  ·exact⟨_,_,rfl,h1,h2,fun h=>by cases h⟩
 obtain⟨A,c,rfl,hnc,hc,hA⟩:=hf
 unfold maxLen at hc
 clear hown hv hx h1x
 cases A with
 | none =>
  obtain⟨rfl,rfl⟩:=hA rfl
  clear hA
  exact c_45
 | some a =>
  clear hA
  by_cases hcn:c=n
  ·subst hcn
   exact c_45
  ·go_enter Tryz.func137,Tryz.ntmps137
   go_wp2_with (at_builtin;refine wpList_append_lies _ rfl _ _ 32 rfl w0.heap.size 3 i0 (.int .i64 0) 1 8 Tryz.underlying32 hi hz0 hz1 hz2 rfl b_37 _ _ _ b_39 HO.out ⟨vb,0,none⟩ 1 1 xc b_39 HX.out (fun j u hj=>by rw[add_lit];exact HV.out j u hj) H1.out b_37 b_34 b_37 hG.size w.heap.size rfl ?_;intro g3 cap3 w3 hown3 hgr3 hat3 hlt3)
   go_ret
   exact⟨_,rfl,hown3,hgr3,hat3.imp (fun h=>h.symm) (fun h b hb=>by simp[Value.ownBlock] at hb;omega)⟩
theorem insertI (w0:World) (l:List Int) (x:Int) (i vb:Nat) (v:Value) (w:World) (hown:w.ownsRow w0.heap.size 3 1 v l.length (l.flatMap oneI)) (hG:Grew w0 w) (hi:i≤l.length) (hl:l.length≤1000000)
  (hv:w.heap[vb]? = some (.cells (oneI x).toArray 3 (0,0))) (hne:some vb≠v.ownBlock) :
  Calls Tryz.prog 137 #[v,.int .i64 i,.slice (some ⟨vb,0,none⟩) 1 1] w (RetRow3 3 1 ((l.take i++[x]++l.drop i).flatMap oneI) (l.length+1) w0.heap.size v w):=by
 have hx1:∀ v∈(oneI x),v.oneCell'=true:=fun v hv=>one_cellsI [x] v (by simpa using hv)
 have hxl:(oneI x).length=1:=rfl
 obtain⟨ht,hd⟩:=flat_take (f:=oneI) (k:=1) (fun _=>rfl) l i
 rw[Nat.mul_one] at ht hd
 have hfl:=flatMap_len oneI 1 (fun _=>rfl) l
 by_cases e:i=l.length
 ·subst e
  have:=insEndI w0 l.length vb (l.flatMap oneI) (oneI x) v w hown hG hl hv hxl hx1
  simpa [List.flatMap_append] using this
 ·rcases hown.2 with ⟨_,h0⟩|⟨g,cap,cur,rfl,hbg,hh,h1,h2,h3,h4⟩
  ·omega
  have hres:(l.take i++[x]++l.drop i).flatMap oneI=(l.flatMap oneI).take (i)++(oneI x)++(l.flatMap oneI).drop (i):=by
   rw[ht,hd];simp[List.flatMap_append]
  have hcur:cur.toList=(l.flatMap oneI).take (i)++(l.flatMap oneI).drop (i)++cur.toList.drop (l.length*1):=by
   rw[List.take_append_drop,← h4,List.take_append_drop]
  have hh':w.heap[g]? = some (.cells cur.toList.toArray 3 (0,0)):=by simpa using hh
  have hp:((l.flatMap oneI).take (i)).length=i:=by rw[List.length_take,hfl];omega
  have hq:((l.flatMap oneI).drop i).length=l.length-i:=by rw[List.length_drop,hfl];omega
  have hne':vb≠g:=fun h=>hne (by rw[h];rfl)
  have hq1:∀ v∈(l.flatMap oneI).drop (i),v.oneCell'=true:=fun v hv=>one_cellsI l v (List.mem_of_mem_drop hv)
  rw[hres]
  by_cases hroom:l.length+1≤cap
  ·exact insShiftI w0 g cap l.length i vb _ _ _ _ _ w b_37 hroom h2 hne' hG hbg hh' hcur hp hq (by rw[List.length_drop,Array.length_toList,h3];omega) (by simpa using h3) hv hxl hq1 hx1
  ·exact insGrowI w0 g cap l.length i vb _ _ _ _ _ w b_37 h1 b_37 hl hG hh' hcur hp hq hv hxl hq1 hx1
end Go.Proofs.YtafncfomiolmgaaGreatDoor
namespace Go.Proofs.YtafncfomiolmgaaGreatDoor
open Go.RowKit
set_option maxRecDepth 100000 in
theorem c_42 {p:Prop} (h:p:=by
 go_enter Tryz.func91,Tryz.ntmps91
 go_wp2_with (at_builtin;refine wpList_append_lies _ rfl _ _ 33 rfl w0.heap.size 53 i0 (.agg #[.int .i64 0,.int .i64 0,.int .i64 0,.string ⟨#[]⟩,.string ⟨#[]⟩,.slice none 0 0]) 6 80 Tryz.underlying33 hi hz0 hz1 hz2 rfl b_37 _ _ _ b_39 HO.out ⟨vb,0,none⟩ 1 1 xc b_39 HX.out (fun j u hj=>by rw[add_lit];exact HV.out j u hj) H1.out b_37 b_34 b_37 hG.size w.heap.size rfl ?_;intro g3 cap3 w3 hown3 hgr3 hat3 hlt3)
 go_ret
 exact⟨_,rfl,hown3,hgr3,hat3.imp (fun h=>h.symm) (fun h b hb=>by simp[Value.ownBlock] at hb;omega)⟩):p:=h
theorem cinfoB:(Tryz.prog.info? 53).map (fun i=>(i.zero,i.size,i.bytes))=some (some (.agg #[.int .i64 0,.int .i64 0,.int .i64 0,.string ⟨#[]⟩,.string ⟨#[]⟩,.slice none 0 0]),6,80):=by kernel_rfl
theorem one_cellsB (l:List BrC) (h:∀ c∈l,c.kv.oneCell'=true):∀ u∈l.flatMap BrC.cells,u.oneCell'=true:=by
 intro u hu
 rw[List.mem_flatMap] at hu
 obtain⟨x,hx0,hx⟩:=hu
 simp[BrC.cells] at hx
 rcases hx with rfl|rfl|rfl|rfl|rfl|rfl
 all_goals first|rfl|exact h x hx0
theorem sizeB (w:World):(Go.sizeOf 53).run Tryz.prog w=.ok 6 w:=by kernel_rfl
theorem infoSzB:(Tryz.prog.info? 53).map (·.size)=some 6:=by kernel_rfl
theorem overlapsB (w:World) (g vb o:Nat) (hne:vb≠g) (cur xc:List Value) (hg:w.heap[g]? = some (.cells cur.toArray 53 (0,0))) (hv:w.heap[vb]? = some (.cells xc.toArray 53 (0,0))) (hpos:0<cur.length) (lb cb:Nat) :
  (callFunc 135 #[.slice (some ⟨vb,0,none⟩) 1 1,.slice (some ⟨g,o,none⟩) lb cb]).run Tryz.prog w=.ok (.value (.bool false)) w:=by
 rw[run_callFunc_extern Tryz.func135 (by kernel_rfl) (by kernel_rfl) (by kernel_rfl) (e:=Extern.SlicesOverlaps.overlaps #[33,33] #[4]) (by kernel_rfl),
  Lib.run_overlaps_apart w 33 4 53 Tryz.underlying33 6 sizeB ⟨vb,0,none⟩ ⟨g,o,none⟩ 1 1 lb cb hne 53 53 xc.toArray.size cur.toArray.size (by simp[World.shape?,hv]) (by simp[World.shape?,hg]) (by simp only [List.size_toArray];omega) (by simp[World.frozen?,hv]) (by simp[World.frozen?,hv])]
 rfl
set_option maxHeartbeats 4000000 in
set_option maxRecDepth 100000 in
theorem insShiftB (w0:World) (g cap n i vb:Nat) (cur p q r xc:List Value) (w:World) (hi:i<n) (hroom:n+1≤cap) (hc:cap≤maxLen) (hne:vb≠g) (hG:Grew w0 w) (hbg:w0.heap.size≤g)
  (hg:w.heap[g]? = some (.cells cur.toArray 53 (0,0))) (hcur:cur=p++q++r) (hp:p.length=i*6) (hq:q.length=(n-i)*6) (hr:6≤r.length) (hcl:cur.length=cap*6)
  (hv:w.heap[vb]? = some (.cells xc.toArray 53 (0,0))) (hx:xc.length=6) (h1c:∀ v∈q,v.oneCell'=true) (h1x:∀ v∈xc,v.oneCell'=true) :
  Calls Tryz.prog 91 #[.slice (some ⟨g,0,none⟩) n cap,.int .i64 i,.slice (some ⟨vb,0,none⟩) 1 1] w (RetRow3 53 6 (p++xc++q) (n+1) w0.heap.size (.slice (some ⟨g,0,none⟩) n cap) w):=by
 have hlen:cur.length=i*6+(n-i)*6+r.length:=by rw[hcur];simp only [List.length_append,hp,hq]
 unfold maxLen at hc
 have hov:=fun lb cb=>overlapsB w g vb ((i+1)*6) hne cur xc hg hv b_37 lb cb
 have hz1:¬ ((i:Int)=(n:Int)):=by omega
 have hb2:¬ (cap=i+1):=by omega
 have hb3:(i:Int)≤(n:Int)+1:=by omega
 have hb4:¬ (cap=i):=by omega
 have hin:i≤n:=by omega
 have HG0:=uZ hg
 have HV:=uZ hv
 have HC:=uZ hcur
 have HPQ:=uZ (show p.length=i*6∧q.length=(n-i)*6∧6≤r.length∧xc.length=6 from⟨hp,hq,hr,hx⟩)
 have H1:=uZ (show(∀ v∈q,v.oneCell'=true)∧(∀ v∈xc,v.oneCell'=true) from⟨h1c,h1x⟩)
 have HCL:=uZ hcl
 clear hg hv hcur hp hq hr hx h1c h1x hlen hcl
 go_enter Tryz.func91,Tryz.ntmps91
 go_wp2_with (simp only [hov])
 have hw1:IntKind.i64.wrap ((i:Int)+1)=(i:Int)+1:=IntWalk.i64_in _ b_37
 have hb1:(0:Int)≤(i:Int)+1:=by omega
 have htn:((i:Int)+1).toNat=i+1:=by omega
 have hb5:(i:Int)+1≤(n:Int)+1:=by omega
 have h0i:(0:Int)≤(i:Int):=by omega
 refine region_still_tail 8 (by kernel_rfl) (by kernel_rfl) ?_
 simp only [List.take_succ_cons,List.take_zero,List.drop_succ_cons,List.drop_zero]
 iterate 8 still_step
 clear hw1 hb1 htn hb5
 refine wpStill_nil ?_
 refine copyK rfl _ _ 33 33 rfl 53 Tryz.underlying33 6 infoSzB g ((i+1)*6) (n-i) (cap-(i+1)) ⟨g,i*6,none⟩ (n+1-i) (cap-i) b_39 b_39 cur 53 (by have:=HG0.out;exact this) q ?_ ?_ ?_ ?_ w0 (by exact hG.drew) hbg ?_
 ·rw[HPQ.out.2.1]
  congr 1
  simp only [Nat.min_def]
  split<;>omega
 ·intro j v hj
  rw[add_lit]
  refine cells_at HG0.out (i*6+j) v ?_
  exact c_62
 ·have h1:=HPQ.out
  rw[HC.out]
  simp only [List.length_append]
  omega
 ·exact fun v hv=>H1.out.1 v hv
 intro w1 HG1 HW1 HK1
 have hvb1:w1.heap[vb]? = some (.cells xc.toArray 53 (0,0)):=(HK1.out vb hne).trans HV.out
 obtain⟨w2,hrun,hg2,hG2,hk2⟩:=copy_run (P:=Tryz.prog) w1 33 33 53 Tryz.underlying33 6 infoSzB g (i*6) (n+1-i) (cap-i) ⟨vb,0,none⟩ 1 1 _ 53 HG1.out xc (by
   rw[HPQ.out.2.2.2]
   have:Nat.min 1 (n+1-i)=1:=by simp only [Nat.min_def];split<;>omega
   rw[this]) (fun j v hj=>by rw[add_lit,Nat.zero_add];exact cells_at hvb1 j v hj) (by
   have h1:=HPQ.out
   rw[length_splice _ _ _ b_24,HC.out]
   simp only [List.length_append]
   omega) H1.out.2 w0 HW1.out hbg
 have HFin:RowKit.Hid (w2.ownsRow w0.heap.size 53 6 (.slice (some ⟨g,0,none⟩) (n+1) cap) (n+1) (p++xc++q)):=by
  have h1:=HPQ.out
  have hs:=splice_shift p q r xc b_37
  rw[h1.1,h1.2.2.2,← HC.out,show i*6+6=(i+1)*6 by omega] at hs
  refine own_splice hbg hg2 b_37 b_34 ?_ (by simp only [List.length_append];omega) ⟨_,hs⟩
  rw[length_splice _ _ _ (by rw[length_splice _ _ _ b_24,HC.out];simp only [List.length_append];omega),length_splice _ _ _ b_24]
  exact HCL.out
 have HGR:=uZ (grown_of hG hG2 hg2 (fun b hb=>(hk2 b hb).trans (HK1.out b hb)))
 clear hg2 hG2 hvb1 hk2
 go_wp2
 go_ret
 exact⟨_,rfl,HFin.out,HGR.out,.inl rfl⟩
theorem zerosB (w:World) (g cap n i:Nat) (cur p q:List Value) (hi:i<n) (hnc:n≤cap) (hroom:cap<n+1) (hn:n≤1000000) (hg:w.heap[g]? = some (.cells cur.toArray 53 (0,0))) (hcur:∃ r,cur=p++q++r) (hp:p.length=i*6) :
  ∃(G:Nat) (Z:List Value) (w1:World),(∀ ty,(Builtin.append_ #[33,3] ty #[.slice (some ⟨g,0,none⟩) i cap,.int .i64 ((n:Int)+1-(i:Int))]).run Tryz.prog w=.ok (.slice (some ⟨w.heap.size,0,none⟩) (n+1) G) w1) ∧
   n+1≤G∧G≤maxLen∧w1.heap[w.heap.size]? = some (.cells (p++Z).toArray 53 (0,0))∧(n+1-i)*6≤Z.length∧i*6+Z.length=G*6∧Grew w w1:=by
 obtain⟨i0,hi0,hz0,hz1,hz2⟩:=info_parts cinfoB
 obtain⟨r,hcur⟩:=hcur
 have hkk:(n:Int)+1-(i:Int)=((n+1-i:Nat):Int):=by omega
 have hik:i+(n+1-i)=n+1:=by omega
 have hold:(Builtin.firstCells i0.size i (.slice (some ⟨g,0,none⟩) i cap)).run Tryz.prog w.drew=.ok p.toArray w.drew:=by
  rw[hz1]
  refine run_firstCells_some w.drew 6 i ⟨g,0,none⟩ i cap p hp (fun j v hj=>?_)
  rw[add_lit,Nat.zero_add]
  refine cells_at (w:=w.drew) hg j v ?_
  rw[hcur,List.append_assoc,List.getElem?_append_left (List.getElem?_eq_some_iff.1 hj).1]
  exact hj
 have h:=fun ty=>Lib.run_append_grow_zeros w 33 3 ty 53 i0 _ .i64 .i64 Tryz.underlying33 Tryz.underlying3 hi0 hz0 (some ⟨g,0,none⟩) i cap p hold (n+1-i) b_37 b_37 b_37 b_37 (by rw[hz2];omega) (by rw[hz2,hik];exact growslice_fits hroom b_37)
 simp only [hik] at h
 rw[hkk]
 obtain⟨ZC,hZC⟩:∃ ZC,ZC=(Value.agg #[.int .i64 0,.int .i64 0,.int .i64 0,.string ⟨#[]⟩,.string ⟨#[]⟩,.slice none 0 0]).cells:=⟨_,rfl⟩
 have hZs:ZC.size=6:=by rw[hZC];rfl
 rw[← hZC] at h
 refine⟨_,(Builtin.zeroCells ZC (n+1-i)++Builtin.zeroCells ZC (grownCap w (n+1) cap 53-(n+1))).toList,_,h,grownCap_ge w _ _ _,grownCap_le_maxLen w (n+1) cap _ b_34,?_,?_,?_,(uX w).drew.alloc _⟩
 ·have:=heap_alloc_last w.drew (.cells (p.toArray++Builtin.zeroCells ZC (n+1-i)++Builtin.zeroCells ZC (grownCap w (n+1) cap 53-(n+1))) 53 (0,0))
  rw[show(p++(Builtin.zeroCells ZC (n+1-i)++Builtin.zeroCells ZC (grownCap w (n+1) cap 53-(n+1))).toList).toArray=p.toArray++Builtin.zeroCells ZC (n+1-i)++Builtin.zeroCells ZC (grownCap w (n+1) cap 53-(n+1)) by simp[Array.append_assoc]]
  exact this
 ·simp[Builtin.zeroCells,hZs]
 ·have h9:=grownCap_ge w (n+1) cap 53
  simp only [Builtin.zeroCells,hZs,Array.toList_append,List.length_append,Array.length_toList,Array.size_map,Array.size_range]
  rw[← Nat.add_assoc,← Nat.add_mul,← Nat.add_mul]
  generalize grownCap w (n+1) cap 53=X at h9 ⊢
  rw[show i+(n+1-i)+(X-(n+1))=X by omega]
set_option maxHeartbeats 4000000 in
set_option maxRecDepth 100000 in
theorem insGrowB (w0:World) (g cap n i vb:Nat) (cur p q r xc:List Value) (w:World) (hi:i<n) (hnc:n≤cap) (hroom:cap<n+1) (hn:n≤1000000) (hG:Grew w0 w)
  (hg:w.heap[g]? = some (.cells cur.toArray 53 (0,0))) (hcur:cur=p++q++r) (hp:p.length=i*6) (hq:q.length=(n-i)*6)
  (hv:w.heap[vb]? = some (.cells xc.toArray 53 (0,0))) (hx:xc.length=6) (h1c:∀ v∈q,v.oneCell'=true) (h1x:∀ v∈xc,v.oneCell'=true) :
  Calls Tryz.prog 91 #[.slice (some ⟨g,0,none⟩) n cap,.int .i64 i,.slice (some ⟨vb,0,none⟩) 1 1] w (RetRow3 53 6 (p++xc++q) (n+1) w0.heap.size (.slice (some ⟨g,0,none⟩) n cap) w):=by
 obtain⟨G,Z,w1,hrun1,hG1,hG2,hh1,hZ,hZl,hgr1⟩:=zerosB w g cap n i cur p q hi hnc hroom hn hg ⟨r,hcur⟩ hp
 unfold maxLen at hG2
 have hglt:g<w.heap.size:=(Array.getElem?_eq_some_iff.1 hg).1
 have hvlt:vb<w.heap.size:=(Array.getElem?_eq_some_iff.1 hv).1
 have hv1:w1.heap[vb]? = some (.cells xc.toArray 53 (0,0)):=(hgr1.block vb hvlt).trans hv
 have hg1:w1.heap[g]? = some (.cells cur.toArray 53 (0,0)):=(hgr1.block g hglt).trans hg
 have hmin:Nat.min 1 (n+1-i)=1:=by simp only [Nat.min_def];split<;>omega
 obtain⟨w2,hrun2,hh2,hgr2,hk2⟩:=copy_run (P:=Tryz.prog) w1 33 33 53 Tryz.underlying33 6 infoSzB w.heap.size (i*6) (n+1-i) (G-i) ⟨vb,0,none⟩ 1 1 _ 53 hh1 xc (by rw[hx,hmin]) (fun j v hj=>by rw[add_lit,Nat.zero_add];exact cells_at hv1 j v hj) (by rw[List.length_append,hp,hx];omega) h1x w hgr1 (Nat.le_refl _)
 have hg2:w2.heap[g]? = some (.cells cur.toArray 53 (0,0)):=(hk2 g b_37).trans hg1
 have hz1:¬ ((i:Int)=(n:Int)):=by omega
 have hz3:(cap:Int)<(n:Int)+1:=by omega
 have hb2:¬ (G=i+1):=by omega
 have hb3:(i:Int)≤(n:Int)+1:=by omega
 have hb4:¬ (cap=i):=by omega
 have hb5:¬ (G=i):=by omega
 have hin:i≤n:=by omega
 have hin2:(i:Int)≤(n:Int):=by omega
 have HR2:=uZ (show w2.heap[w.heap.size]? = _∧w2.heap[g]? = _∧Grew w w2 from⟨hh2,hg2,hgr2⟩)
 have HC:=uZ hcur
 have HPQ:=uZ (show p.length=i*6∧q.length=(n-i)*6∧xc.length=6∧(n+1-i)*6≤Z.length∧i*6+Z.length=G*6 from⟨hp,hq,hx,hZ,hZl⟩)
 have H1:=uZ (show(∀ v∈q,v.oneCell'=true)∧(∀ v∈xc,v.oneCell'=true) from⟨h1c,h1x⟩)
 clear hg hv hcur hp hq hx h1c h1x hh1 hZ hZl hgr1 hv1 hg1 hmin hh2 hgr2 hk2 hg2 hglt hvlt
 obtain⟨H,hH⟩:∃ H,H=w.heap.size:=⟨_,rfl⟩
 rw[← hH] at HR2 hrun1 hrun2
 have HH:=uZ hH
 clear hH
 go_enter Tryz.func91,Tryz.ntmps91
 go_wp2_with (at_builtin;refine Lib.wpList_append_run _ rfl _ _ _ _ rfl _ _ rfl rfl _ _ (hrun1 _) ?_)
 have hw1:IntKind.i64.wrap ((i:Int)+1)=(i:Int)+1:=IntWalk.i64_in _ b_37
 have hb6:(0:Int)≤(i:Int)+1:=by omega
 have htn:((i:Int)+1).toNat=i+1:=by omega
 have hb7:(i:Int)+1≤(n:Int)+1:=by omega
 have h0i:(0:Int)≤(i:Int):=by omega
 refine region_still_tail 8 (by kernel_rfl) (by kernel_rfl) ?_
 simp only [List.take_succ_cons,List.take_zero,List.drop_succ_cons,List.drop_zero]
 iterate 8 still_step
 clear hw1 hb6 htn hb7
 refine wpStill_nil ?_
 refine copyK rfl _ _ 33 33 rfl 53 Tryz.underlying33 6 infoSzB H ((i+1)*6) (n-i) (G-(i+1)) ⟨g,i*6,none⟩ (n-i) (cap-i) b_39 b_39 _ 53 (by have:=HR2.out.1;exact this) q ?_ ?_ ?_ ?_ w (by exact HR2.out.2.2.drew) (by rw[HH.out];exact Nat.le_refl _) ?_
 ·rw[HPQ.out.2.1]
  congr 1
  simp only [Nat.min_def]
  split<;>omega
 ·intro j v hj
  rw[add_lit]
  refine cells_at (w:=w2.drew) HR2.out.2.1 (i*6+j) v ?_
  exact c_62
 ·have h1:=HPQ.out
  rw[length_splice _ _ _ (by rw[List.length_append];omega),List.length_append]
  omega
 ·exact fun v hv=>H1.out.1 v hv
 intro w3 HG3 HW3 HK3
 have HFin:RowKit.Hid (w3.ownsRow w0.heap.size 53 6 (.slice (some ⟨H,0,none⟩) (n+1) G) (n+1) (p++xc++q)):=by
  have h1:=HPQ.out
  have hs:=splice_new p q Z xc
  rw[h1.1,h1.2.2.1,show i*6+6=(i+1)*6 by omega] at hs
  refine own_splice (by rw[HH.out];exact hG.size) HG3.out b_37 b_34 ?_ (by simp only [List.length_append];omega) ⟨_,hs⟩
  rw[length_splice _ _ _ (by rw[length_splice _ _ _ (by rw[List.length_append];omega),List.length_append];omega),length_splice _ _ _ (by rw[List.length_append];omega),List.length_append,h1.1]
  exact h1.2.2.2.2
 go_wp2
 go_ret
 exact⟨_,rfl,HFin.out,grown_grew HW3.out _,.inr fun b hb=>by simp[Value.ownBlock] at hb;rw[← hb,HH.out];exact Nat.le_refl _⟩
set_option maxHeartbeats 4000000 in
set_option maxRecDepth 100000 in
theorem insEndB (w0:World) (n vb:Nat) (xs xc:List Value) (v:Value) (w:World) (hown:w.ownsRow w0.heap.size 53 6 v n xs) (hG:Grew w0 w) (hl:n≤1000000)
  (hv:w.heap[vb]? = some (.cells xc.toArray 53 (0,0))) (hx:xc.length=6) (h1x:∀ v∈xc,v.oneCell'=true) :
  Calls Tryz.prog 91 #[v,.int .i64 n,.slice (some ⟨vb,0,none⟩) 1 1] w (RetRow3 53 6 (xs++xc) (n+1) w0.heap.size v w):=by
 obtain⟨i0,hi,hz0,hz1,hz2⟩:=info_parts cinfoB
 have HO:=uZ hown
 have HV:=uZ (fun j u hj=>(by rw[Nat.zero_add];exact cells_at hv j u hj:w.cell? ⟨vb,0+j,none⟩=some u))
 have HX:=uZ (show xc.length=1*6 from hx)
 have H1:=uZ h1x
 have hf:∃(A:Option Addr) (c:Nat),v=.slice A n c∧n≤c∧c≤maxLen∧(A=none→n=0∧c=0):=by
  rcases hown.2 with ⟨rfl,rfl⟩|⟨g,cap,cur,rfl,_,_,h1,h2,_⟩
  ·exact⟨_,_,rfl,Nat.le_refl _,Nat.zero_le _,fun _=>⟨rfl,rfl⟩⟩
  ·exact⟨_,_,rfl,h1,h2,fun h=>by cases h⟩
 obtain⟨A,c,rfl,hnc,hc,hA⟩:=hf
 unfold maxLen at hc
 clear hown hv hx h1x
 cases A with
 | none =>
  obtain⟨rfl,rfl⟩:=hA rfl
  clear hA
  exact c_42
 | some a =>
  clear hA
  by_cases hcn:c=n
  ·subst hcn
   exact c_42
  ·go_enter Tryz.func91,Tryz.ntmps91
   go_wp2_with (at_builtin;refine wpList_append_lies _ rfl _ _ 33 rfl w0.heap.size 53 i0 (.agg #[.int .i64 0,.int .i64 0,.int .i64 0,.string ⟨#[]⟩,.string ⟨#[]⟩,.slice none 0 0]) 6 80 Tryz.underlying33 hi hz0 hz1 hz2 rfl b_37 _ _ _ b_39 HO.out ⟨vb,0,none⟩ 1 1 xc b_39 HX.out (fun j u hj=>by rw[add_lit];exact HV.out j u hj) H1.out b_37 b_34 b_37 hG.size w.heap.size rfl ?_;intro g3 cap3 w3 hown3 hgr3 hat3 hlt3)
   go_ret
   exact⟨_,rfl,hown3,hgr3,hat3.imp (fun h=>h.symm) (fun h b hb=>by simp[Value.ownBlock] at hb;omega)⟩
theorem insertB (w0:World) (l:List BrC) (x:BrC) (i vb:Nat) (v:Value) (w:World) (hown:w.ownsRow w0.heap.size 53 6 v l.length (l.flatMap BrC.cells)) (hG:Grew w0 w) (hone:∀ c∈l,c.kv.oneCell'=true) (honx:x.kv.oneCell'=true) (hi:i≤l.length) (hl:l.length≤1000000)
  (hv:w.heap[vb]? = some (.cells x.cells.toArray 53 (0,0))) (hne:some vb≠v.ownBlock) :
  Calls Tryz.prog 91 #[v,.int .i64 i,.slice (some ⟨vb,0,none⟩) 1 1] w (RetRow3 53 6 ((l.take i++[x]++l.drop i).flatMap BrC.cells) (l.length+1) w0.heap.size v w):=by
 have hx1:∀ v∈x.cells,v.oneCell'=true:=fun v hv=>one_cellsB [x] (by simpa using honx) v (by simpa using hv)
 have hxl:x.cells.length=6:=rfl
 obtain⟨ht,hd⟩:=flat_take (f:=BrC.cells) (k:=6) (fun _=>rfl) l i
 have hfl:=flatMap_len BrC.cells 6 (fun _=>rfl) l
 by_cases e:i=l.length
 ·subst e
  have:=insEndB w0 l.length vb (l.flatMap BrC.cells) x.cells v w hown hG hl hv hxl hx1
  simpa [List.flatMap_append] using this
 ·rcases hown.2 with ⟨_,h0⟩|⟨g,cap,cur,rfl,hbg,hh,h1,h2,h3,h4⟩
  ·omega
  have hres:(l.take i++[x]++l.drop i).flatMap BrC.cells=(l.flatMap BrC.cells).take (i*6)++x.cells++(l.flatMap BrC.cells).drop (i*6):=by
   rw[ht,hd];simp[List.flatMap_append]
  have hcur:cur.toList=(l.flatMap BrC.cells).take (i*6)++(l.flatMap BrC.cells).drop (i*6)++cur.toList.drop (l.length*6):=by
   rw[List.take_append_drop,← h4,List.take_append_drop]
  have hh':w.heap[g]? = some (.cells cur.toList.toArray 53 (0,0)):=by simpa using hh
  have hp:((l.flatMap BrC.cells).take (i*6)).length=i*6:=by rw[List.length_take,hfl];omega
  have hq:((l.flatMap BrC.cells).drop (i*6)).length=(l.length-i)*6:=by rw[List.length_drop,hfl];omega
  have hne':vb≠g:=fun h=>hne (by rw[h];rfl)
  have hq1:∀ v∈(l.flatMap BrC.cells).drop (i*6),v.oneCell'=true:=fun v hv=>one_cellsB l hone v (List.mem_of_mem_drop hv)
  rw[hres]
  by_cases hroom:l.length+1≤cap
  ·exact insShiftB w0 g cap l.length i vb _ _ _ _ _ w b_37 hroom h2 hne' hG hbg hh' hcur hp hq (by rw[List.length_drop,Array.length_toList,h3];omega) (by simpa using h3) hv hxl hq1 hx1
  ·exact insGrowB w0 g cap l.length i vb _ _ _ _ _ w b_37 h1 b_37 hl hG hh' hcur hp hq hv hxl hq1 hx1
end Go.Proofs.YtafncfomiolmgaaGreatDoor
namespace Go.Proofs.YtafncfomiolmgaaGreatDoor
open Go.RowKit
structure Auth where
 id:Int
 kind:Int
 fr:Int
 un:Int
 names:List Nam
 next:List Int
deriving DecidableEq,Inhabited
structure Br where
 id:Int
 parent:Int
 level:Int
 title:ByteArray
 mark:ByteArray
 kids:List Int
deriving DecidableEq,Inhabited
structure Tr where
 roots:List Int
 brs:List Br
deriving DecidableEq,Inhabited
def Auth.c (a:Auth) (nv xv:Value):AuC:=⟨a.id,a.kind,a.fr,a.un,nv,xv⟩
def AuOk (w:World) (c:AuC) (a:Auth):Prop:=c=a.c c.nv c.xv∧SlN w c.nv a.names∧SlI w c.xv a.next
def SlAu (w:World) (v:Value) (l:List Auth):Prop:=∃ cs:List AuC,SlA w v cs∧cs.length=l.length∧∀ i (h:i<cs.length) (h':i<l.length),AuOk w cs[i] l[i]
def Br.c (a:Br) (kv:Value):BrC:=⟨a.id,a.parent,a.level,a.title,a.mark,kv⟩
def BrOk (w:World) (c:BrC) (a:Br):Prop:=c=a.c c.kv∧SlI w c.kv a.kids
def SlBr (w:World) (v:Value) (l:List Br):Prop:=∃ cs:List BrC,SlB w v cs∧cs.length=l.length∧∀ i (h:i<cs.length) (h':i<l.length),BrOk w cs[i] l[i]
def TrOk (w:World) (rv bv:Value) (t:Tr):Prop:=SlI w rv t.roots∧SlBr w bv t.brs
theorem AuOk.mono {w w':World} {c:AuC} {a:Auth} (h:AuOk w c a) (hg:Grew w w'):AuOk w' c a:=⟨h.1,h.2.1.mono hg,h.2.2.mono hg⟩
theorem SlAu.mono {w w':World} {v:Value} {l:List Auth} (h:SlAu w v l) (hg:Grew w w'):SlAu w' v l:=by
 obtain⟨cs,h1,h2,h3⟩:=h
 exact⟨cs,h1.mono hg,h2,fun i h h'=>(h3 i h h').mono hg⟩
theorem SlAu.nil (w:World):SlAu w (.slice none 0 0) []:=⟨[],SlA.nil w,rfl,fun _ h=>absurd h (Nat.not_lt_zero _)⟩
theorem BrOk.mono {w w':World} {c:BrC} {a:Br} (h:BrOk w c a) (hg:Grew w w'):BrOk w' c a:=⟨h.1,h.2.mono hg⟩
theorem SlBr.mono {w w':World} {v:Value} {l:List Br} (h:SlBr w v l) (hg:Grew w w'):SlBr w' v l:=by
 obtain⟨cs,h1,h2,h3⟩:=h
 exact⟨cs,h1.mono hg,h2,fun i h h'=>(h3 i h h').mono hg⟩
theorem SlBr.nil (w:World):SlBr w (.slice none 0 0) []:=⟨[],SlB.nil w,rfl,fun _ h=>absurd h (Nat.not_lt_zero _)⟩
theorem TrOk.mono {w w':World} {rv bv:Value} {t:Tr} (h:TrOk w rv bv t) (hg:Grew w w'):TrOk w' rv bv t:=⟨h.1.mono hg,h.2.mono hg⟩
theorem SlAu.open_ {w:World} {v:Value} {l:List Auth} (h:SlAu w v l):∃(A:Option Addr) (c:Nat),v=.slice A l.length c∧l.length≤c∧c≤maxLen ∧
  (0<l.length→∃ b off,A=some ⟨b,off,none⟩∧b<w.heap.size∧∀ i (hi:i<l.length),∃ nv xv,SlN w nv l[i].names∧SlI w xv l[i].next ∧
   ∀ W,Grew w W→W.cell? ⟨b,off+i*6,none⟩=some (.int .i64 l[i].id)∧W.cell? ⟨b,off+i*6+1,none⟩=some (.int .i64 l[i].kind)∧W.cell? ⟨b,off+i*6+2,none⟩=some (.int .i64 l[i].fr)∧W.cell? ⟨b,off+i*6+3,none⟩=some (.int .i64 l[i].un)∧W.cell? ⟨b,off+i*6+4,none⟩=some nv∧W.cell? ⟨b,off+i*6+5,none⟩=some xv):=by
 obtain⟨cs,h1,h2,h3⟩:=h
 obtain⟨A,c,hv,hn,hm,hr⟩:=h1.open_
 refine⟨A,c,by rw[← h2];exact hv,by omega,hm,fun h0=>?_⟩
 obtain⟨b,off,hA,hb,hc⟩:=hr b_37
 refine⟨b,off,hA,hb,fun i hi=>?_⟩
 obtain⟨k1,k2,k3⟩:=h3 i b_37 hi
 refine⟨_,_,k2,k3,fun W hW=>?_⟩
 obtain⟨e0,e1,e2,e3,e4,e5⟩:=hc W hW i b_37
 have q0:=congrArg AuC.id k1
 have q1:=congrArg AuC.kind k1
 have q2:=congrArg AuC.fr k1
 have q3:=congrArg AuC.un k1
 simp only [Auth.c] at q0 q1 q2 q3
 rw[q0] at e0
 rw[q1] at e1
 rw[q2] at e2
 rw[q3] at e3
 exact⟨e0,e1,e2,e3,e4,e5⟩
theorem SlBr.open_ {w:World} {v:Value} {l:List Br} (h:SlBr w v l):∃(A:Option Addr) (c:Nat),v=.slice A l.length c∧l.length≤c∧c≤maxLen ∧
  (0<l.length→∃ b off,A=some ⟨b,off,none⟩∧b<w.heap.size∧∀ i (hi:i<l.length),∃ kv,SlI w kv l[i].kids ∧
   ∀ W,Grew w W→W.cell? ⟨b,off+i*6,none⟩=some (.int .i64 l[i].id)∧W.cell? ⟨b,off+i*6+1,none⟩=some (.int .i64 l[i].parent)∧W.cell? ⟨b,off+i*6+2,none⟩=some (.int .i64 l[i].level)∧W.cell? ⟨b,off+i*6+3,none⟩=some (.string l[i].title)∧W.cell? ⟨b,off+i*6+4,none⟩=some (.string l[i].mark)∧W.cell? ⟨b,off+i*6+5,none⟩=some kv):=by
 obtain⟨cs,h1,h2,h3⟩:=h
 obtain⟨A,c,hv,hn,hm,hr⟩:=h1.open_
 refine⟨A,c,by rw[← h2];exact hv,by omega,hm,fun h0=>?_⟩
 obtain⟨b,off,hA,hb,hc⟩:=hr b_37
 refine⟨b,off,hA,hb,fun i hi=>?_⟩
 obtain⟨k1,k2⟩:=h3 i b_37 hi
 refine⟨_,k2,fun W hW=>?_⟩
 obtain⟨e0,e1,e2,e3,e4,e5⟩:=hc W hW i b_37
 have q0:=congrArg BrC.id k1
 have q1:=congrArg BrC.parent k1
 have q2:=congrArg BrC.level k1
 have q3:=congrArg BrC.title k1
 have q4:=congrArg BrC.mark k1
 simp only [Br.c] at q0 q1 q2 q3 q4
 rw[q0] at e0
 rw[q1] at e1
 rw[q2] at e2
 rw[q3] at e3
 rw[q4] at e4
 exact⟨e0,e1,e2,e3,e4,e5⟩
theorem idxFrom_rel {α β:Type} {p:α→Bool} {q:β→Bool}:∀(l:List α) (m:List β) (j:Nat),l.length=m.length→(∀ i (h:i<l.length) (h':i<m.length),p l[i]=q m[i])→idxFrom p l j=idxFrom q m j
 | [],[],_,_,_=>rfl
 | [],_::_,_,h,_=>by simp at h
 | _::_,[],_,h,_=>by simp at h
 | x::l,y::m,j,h,hr=>by
  have h0:=hr 0 b_38 b_38
  simp only [List.getElem_cons_zero] at h0
  rw[idxFrom,idxFrom,h0,idxFrom_rel l m (j+1) (by simpa using h) (fun i h1 h2=>hr (i+1) (Nat.succ_lt_succ h1) (Nat.succ_lt_succ h2))]
theorem idxP_rel {α β:Type} {p:α→Bool} {q:β→Bool} (l:List α) (m:List β) (h:l.length=m.length) (hr:∀ i (h:i<l.length) (h':i<m.length),p l[i]=q m[i]):idxP p l=idxP q m:=idxFrom_rel l m 0 h hr
end Go.Proofs.YtafncfomiolmgaaGreatDoor
namespace Go.Proofs.YtafncfomiolmgaaGreatDoor
open Go.RowKit
theorem dec_lo (s:ByteArray) (pos:Nat) (h:(s.get! pos).toNat<128):Utf8.decode s pos=((s.get! pos).toNat,1):=by
 unfold Utf8.decode
 simp only [Nat.add_zero]
 rw[if_pos h]
theorem dec_hi (s:ByteArray) (pos:Nat) (h:128≤(s.get! pos).toNat):128≤(Utf8.decode s pos).1:=by
 unfold Utf8.decode
 simp only [Nat.add_zero]
 rw[if_neg b_37]
 have he:128≤Utf8.runeError:=by decide
 split
 ·split
  ·rename_i h2;exact h2
  ·exact he
 ·split
  ·split
   ·rename_i h2
    simp only [Bool.and_eq_true,decide_eq_true_eq] at h2
    show 128≤_
    omega
   ·exact he
  ·split
   ·split
    ·rename_i h2
     simp only [Bool.and_eq_true,decide_eq_true_eq] at h2
     show 128≤_
     omega
    ·exact he
   ·exact he
def strange (lo hi:Nat) (r:Nat):Bool:=decide (r<lo) || decide (hi<r)
theorem idxFrom_strange (lo hi:Nat) (hhi:hi<128) (s:ByteArray):∀(f pos:Nat),s.size≤pos+f→(0≤Lib.idxFuncFrom (strange lo hi) true s f pos↔∃ j,pos≤j∧j<s.size∧strange lo hi (s.get! j).toNat=true)
 | 0,pos,h=>by
  constructor
  ·intro h2
   simp[Lib.idxFuncFrom] at h2
  ·rintro ⟨j,h1,h2,_⟩
   omega
 | f+1,pos,h=>by
  rw[Lib.idxFuncFrom]
  by_cases hp:pos<s.size
  ·rw[if_pos hp]
   by_cases hb:(s.get! pos).toNat<128
   ·rw[dec_lo s pos hb]
    by_cases hs:strange lo hi (s.get! pos).toNat=true
    ·rw[if_pos hs]
     exact⟨fun _=>⟨pos,Nat.le_refl _,hp,hs⟩,fun _=>by omega⟩
    ·rw[if_neg hs,idxFrom_strange lo hi hhi s f (pos+1) b_37]
     constructor
     ·rintro ⟨j,h1,h2,h3⟩
      exact⟨j,by omega,h2,h3⟩
     ·rintro ⟨j,h1,h2,h3⟩
      by_cases e:j=pos
      ·subst e
       exact absurd h3 hs
      ·exact⟨j,by omega,h2,h3⟩
   ·have hd:=dec_hi s pos b_37
    have hs:strange lo hi (Utf8.decode s pos).1=true:=by
     simp only [strange,Bool.or_eq_true,decide_eq_true_eq]
     omega
    rw[if_pos hs]
    refine⟨fun _=>⟨pos,Nat.le_refl _,hp,?_⟩,fun _=>by omega⟩
    simp only [strange,Bool.or_eq_true,decide_eq_true_eq]
    omega
  ·rw[if_neg hp]
   constructor
   ·intro h2
    simp at h2
   ·rintro ⟨j,h1,h2,_⟩
    omega
def allIn (lo hi:Nat) (l:List UInt8):Bool:=l.all fun b=>decide (lo≤b.toNat) && decide (b.toNat≤hi)
theorem idx_strange (lo hi:Nat) (hhi:hi<128) (s:ByteArray):decide (0≤Lib.idxFunc (strange lo hi) true s) = !allIn lo hi s.data.toList:=by
 rw[Bool.eq_iff_iff,decide_eq_true_eq,Lib.idxFunc,idxFrom_strange lo hi hhi s s.size 0 b_37]
 simp only [Bool.not_eq_true',allIn,List.all_eq_false]
 have hg:∀ j (h:j<s.size),s.get! j=s.data.toList[j]'(by simpa using h):=fun j h=>by
  have h':j<s.data.size:=h
  rw[Array.getElem_toList]
  show s.data[j]! = _
  rw[getElem!_pos s.data j h']
 constructor
 ·rintro ⟨j,_,h2,h3⟩
  refine⟨_,List.getElem_mem (by simpa using h2),?_⟩
  rw[← hg j h2]
  simp only [strange,Bool.or_eq_true,decide_eq_true_eq] at h3
  simp only [Bool.and_eq_true,decide_eq_true_eq]
  omega
 ·rintro ⟨b,hb,h3⟩
  obtain⟨j,hj,rfl⟩:=List.mem_iff_getElem.1 hb
  have hj':j<s.size:=by simpa using hj
  refine⟨j,by omega,hj',?_⟩
  rw[hg j hj']
  simp only [Bool.and_eq_true,decide_eq_true_eq] at h3
  simp only [strange,Bool.or_eq_true,decide_eq_true_eq]
  omega
def nameF (l:List UInt8):Bool:=decide (1≤l.length∧l.length≤64) && (!(l.head? == some 32) && (!(l.getLast? == some 32) && (!Lib.contains l [32,32] && allIn 32 126 l)))
def markF (l:List UInt8):Bool:=decide (1≤l.length∧l.length≤64) && allIn 33 126 l
end Go.Proofs.YtafncfomiolmgaaGreatDoor
namespace Go.Proofs.YtafncfomiolmgaaGreatDoor
open Go.RowKit
def within (n lo hi:Int):Bool:=decide (lo≤n) && decide (n≤hi)
theorem within_t {n lo hi:Int}:within n lo hi=true↔lo≤n∧n≤hi:=by simp[within]
def insU (n:Int):List Int→List Int
 | []=>[n]
 | x::r=>if x<n then x::insU n r else if x=n then x::r else n::x::r
end Go.Proofs.YtafncfomiolmgaaGreatDoor
namespace Go.Proofs.YtafncfomiolmgaaGreatDoor
open Go.RowKit
def brFind (l:List Br) (id:Int):Option Br:=l.find? fun b=>b.id == id
def brIdx (l:List Br) (id:Int):Int:=idxP (fun b=>b.id == id) l
def fitsF (p c:Int):Bool:=within p 1 4 && (within c 1 4 && (decide (p<c) || (p == 2 && c == 2)))
def markOk (l:List Br) (i:Nat) (m:ByteArray):Prop:=m.toList.isEmpty=false→markF m.data.toList=true∧(l.take i).any (fun b=>b.mark.toList == m.toList)=false
def BrAlone (l:List Br) (i:Nat) (h:i<l.length):Prop :=
 within l[i].id 1 1073741824=true∧within l[i].level 1 4=true∧(0<i→(l[i-1]'b_37).id<l[i].id)∧nameF l[i].title.data.toList=true∧markOk l i l[i].mark
def BrPlaced (l:List Br) (b:Br):Prop:=if b.parent=0 then b.level=1 else ∃ p,brFind l b.parent=some p∧b.level≠1∧fitsF p.level b.level=true
def kidsOf (l:List Br) (id:Int):List Int:=(l.filter fun b=>b.parent == id).map Br.id
def sortI (l:List Int):List Int:=l.mergeSort fun x y=>decide (x≤y)
def deep (l:List Br):Nat→Br→Option Nat
 | 0,b=>if b.parent=0 then some 1 else none
 | n+1,b=>if b.parent=0 then some 1 else match brFind l b.parent with
  | none=>none
  | some p=>(deep l n p).map (· + 1)
def BrDeep (l:List Br) (b:Br):Prop:=∃ d,deep l l.length b=some d∧d≤12
def RightT (t:Tr):Prop:=t.brs.length≤256∧(∀ i (h:i<t.brs.length),BrAlone t.brs i h)∧(∀ i (h:i<t.brs.length),BrPlaced t.brs t.brs[i])∧(∀ i (h:i<t.brs.length),sortI t.brs[i].kids=kidsOf t.brs t.brs[i].id) ∧
 sortI t.roots=kidsOf t.brs 0∧∀ i (h:i<t.brs.length),BrDeep t.brs t.brs[i]
theorem brIdx_none {l:List Br} {id:Int} (h:brFind l id=none):brIdx l id=-1:=by
 refine idxP_miss _ l (fun i hi=>?_)
 have:=List.find?_eq_none.1 h l[i] (List.getElem_mem hi)
 simpa using this
theorem brIdx_some {l:List Br} {id:Int} {b:Br} (h:brFind l id=some b):∃ k,∃ hk:k<l.length,brIdx l id=(k:Int)∧l[k]=b:=by
 obtain⟨hb,k,hk,e,hbef⟩:=List.find?_eq_some_iff_getElem.1 h
 refine⟨k,hk,idxP_hit _ l k hk (by rw[e];exact hb) (fun i hi hik=>by simpa using hbef i hik),e⟩
end Go.Proofs.YtafncfomiolmgaaGreatDoor
namespace Go.Proofs.YtafncfomiolmgaaGreatDoor
open Go.RowKit
def Asc (l:List Int):Prop:=l.Pairwise (· < ·)
theorem asc_ext:∀ {l m:List Int},Asc l→Asc m→(∀ x,x∈l↔x∈m)→l=m
 | [],[],_,_,_=>rfl
 | [],y::m,_,_,h=>by have:=(h y).2 b_38;simp at this
 | x::l,[],_,_,h=>by have:=(h x).1 b_38;simp at this
 | x::l,y::m,hl,hm,h=>by
  have hl':=List.pairwise_cons.1 hl
  have hm':=List.pairwise_cons.1 hm
  have hxy:x=y:=by
   have h1:=(h x).1 b_38
   have h2:=(h y).2 b_38
   rcases List.mem_cons.1 h1 with e|h1
   ·exact e
   ·rcases List.mem_cons.1 h2 with e|h2
    ·exact e.symm
    ·have a:=hm'.1 x h1
     have b:=hl'.1 y h2
     omega
  subst hxy
  rw[asc_ext hl'.2 hm'.2 (fun z=>?_)]
  constructor
  ·intro hz
   have h1:=(h z).1 (by simp[hz])
   rcases List.mem_cons.1 h1 with e|h1
   ·subst e
    have:=hl'.1 z hz
    omega
   ·exact h1
  ·intro hz
   have h1:=(h z).2 (by simp[hz])
   rcases List.mem_cons.1 h1 with e|h1
   ·subst e
    have:=hm'.1 z hz
    omega
   ·exact h1
theorem mem_insU (n x:Int):∀ l:List Int,x∈insU n l↔x=n∨x∈l
 | []=>by simp[insU]
 | y::r=>by
  unfold insU
  split
  ·rw[List.mem_cons,mem_insU n x r,List.mem_cons]
   constructor
   ·rintro (h|h|h)
    ·exact .inr (.inl h)
    ·exact .inl h
    ·exact .inr (.inr h)
   ·rintro (h|h|h)
    ·exact .inr (.inl h)
    ·exact .inl h
    ·exact .inr (.inr h)
  ·split
   ·rename_i h
    subst h
    simp
   ·simp
theorem asc_insU (n:Int):∀ l:List Int,Asc l→Asc (insU n l)
 | [],_=>by simp[insU,Asc]
 | y::r,h=>by
  have h':=List.pairwise_cons.1 h
  unfold insU
  split
  ·rename_i hy
   refine List.pairwise_cons.2 ⟨fun z hz=>?_,asc_insU n r h'.2⟩
   rcases (mem_insU n z r).1 hz with e|hz
   ·omega
   ·exact h'.1 z hz
  ·split
   ·exact h
   ·refine List.pairwise_cons.2 ⟨fun z hz=>?_,h⟩
    rcases List.mem_cons.1 hz with e|hz
    ·omega
    ·have:=h'.1 z hz
     omega
theorem sortI_asc (l:List Int) (h:l.Nodup):Asc (sortI l):=by
 have h1:(sortI l).Pairwise fun a b=>decide (a≤b)=true:=List.pairwise_mergeSort (fun a b c=>by simp;omega) (fun a b=>by simp;omega) l
 have h2:(sortI l).Nodup:=(List.mergeSort_perm l _).nodup_iff.2 h
 refine List.Pairwise.imp₂ (R:=fun a b=>decide (a≤b)=true) (S:=(· ≠ ·)) (fun a b k1 k2=>?_) h1 h2
 simp at k1
 omega
theorem mem_sortI (l:List Int) (x:Int):x∈sortI l↔x∈l:=(List.mergeSort_perm l _).mem_iff
end Go.Proofs.YtafncfomiolmgaaGreatDoor
namespace Go.Proofs
open Go.Shelf
def Tryz.laysM171_ren:Go.Shelf.Ren:=⟨fun|171=>39|243=>82|246=>129|283=>166|284=>167|285=>168|286=>169|129=>157|317=>183|318=>184|319=>185|320=>186|337=>194|338=>195|n=>n,fun|3=>3|9=>9|2=>2|4=>4|171=>151|0=>0|53=>148|37=>89|5=>5|173=>153|212=>166|51=>146|20=>20|213=>167|46=>113|232=>175|233=>176|n=>n,fun|17=>0|18=>2|19=>3|n=>n⟩
theorem Tryz.laysM171:Go.Proofs.LaysM.n171 Tryz.prog Tryz.laysM171_ren:={
 mixed:=by kernel_rfl
 f129:=Tryz.func157.trans (congrArg some (by kernel_rfl))
 f171:=Tryz.func39.trans (congrArg some (by kernel_rfl))
 f243:=Tryz.func82.trans (congrArg some (by kernel_rfl))
 f246:=Tryz.func129.trans (congrArg some (by kernel_rfl))
 f283:=Tryz.func166.trans (congrArg some (by kernel_rfl))
 f284:=Tryz.func167.trans (congrArg some (by kernel_rfl))
 f285:=Tryz.func168.trans (congrArg some (by kernel_rfl))
 f286:=Tryz.func169.trans (congrArg some (by kernel_rfl))
 f317:=Tryz.func183.trans (congrArg some (by kernel_rfl))
 f318:=Tryz.func184.trans (congrArg some (by kernel_rfl))
 f319:=Tryz.func185.trans (congrArg some (by kernel_rfl))
 f320:=Tryz.func186.trans (congrArg some (by kernel_rfl))
 f337:=Tryz.func194.trans (congrArg some (by kernel_rfl))
 f338:=Tryz.func195.trans (congrArg some (by kernel_rfl))
 t0:=Tryz.underlying0
 a0:=Tryz.isAgg0
 z0:=Tryz.sizeOf0
 v0:=Tryz.zeroValue0
 t2:=Tryz.underlying2
 a2:=Tryz.isAgg2
 z2:=Tryz.sizeOf2
 v2:=Tryz.zeroValue2
 t3:=Tryz.underlying3
 a3:=Tryz.isAgg3
 z3:=Tryz.sizeOf3
 v3:=Tryz.zeroValue3
 t4:=Tryz.underlying4
 a4:=Tryz.isAgg4
 z4:=Tryz.sizeOf4
 v4:=Tryz.zeroValue4
 t5:=Tryz.underlying5
 a5:=Tryz.isAgg5
 z5:=Tryz.sizeOf5
 v5:=Tryz.zeroValue5
 t9:=Tryz.underlying9
 a9:=Tryz.isAgg9
 z9:=Tryz.sizeOf9
 v9:=Tryz.zeroValue9
 t20:=Tryz.underlying20
 a20:=Tryz.isAgg20
 z20:=Tryz.sizeOf20
 v20:=Tryz.zeroValue20
 t37:=Tryz.underlying89
 a37:=Tryz.isAgg89
 z37:=Tryz.sizeOf89
 v37:=Tryz.zeroValue89
 t46:=Tryz.underlying113
 a46:=Tryz.isAgg113
 z46:=Tryz.sizeOf113
 v46:=Tryz.zeroValue113
 t51:=Tryz.underlying146
 a51:=Tryz.isAgg146
 z51:=Tryz.sizeOf146
 v51:=Tryz.zeroValue146
 t53:=Tryz.underlying148
 a53:=Tryz.isAgg148
 z53:=Tryz.sizeOf148
 v53:=Tryz.zeroValue148
 t171:=Tryz.underlying151
 a171:=Tryz.isAgg151
 z171:=Tryz.sizeOf151
 v171:=Tryz.zeroValue151
 t173:=Tryz.underlying153
 a173:=Tryz.isAgg153
 z173:=Tryz.sizeOf153
 v173:=Tryz.zeroValue153
 t212:=Tryz.underlying166
 a212:=Tryz.isAgg166
 z212:=Tryz.sizeOf166
 v212:=Tryz.zeroValue166
 t213:=Tryz.underlying167
 a213:=Tryz.isAgg167
 z213:=Tryz.sizeOf167
 t232:=Tryz.underlying175
 a232:=Tryz.isAgg175
 z232:=Tryz.sizeOf175
 v232:=Tryz.zeroValue175
 t233:=Tryz.underlying176
 a233:=Tryz.isAgg176
 z233:=Tryz.sizeOf176
 v233:=Tryz.zeroValue176
 g17:=by kernel_rfl
 g18:=by kernel_rfl
 g19:=by kernel_rfl
 i0:=by kernel_rfl
 i2:=by kernel_rfl
 i3:=by kernel_rfl
 i4:=by kernel_rfl
 i5:=by kernel_rfl
 i9:=by kernel_rfl
 i20:=by kernel_rfl
 i37:=by kernel_rfl
 i46:=by kernel_rfl
 i51:=by kernel_rfl
 i53:=by kernel_rfl
 i171:=by kernel_rfl
 i173:=by kernel_rfl
 i212:=by kernel_rfl
 i232:=by kernel_rfl
 i233:=by kernel_rfl
 m17:=by kernel_rfl
 m18:=by kernel_rfl
 m19:=by kernel_rfl }
open Go.RowKit Go.Sort Go.Lib in
theorem Tryz.strconv_Itoa (n:Int) (h0 : -9223372036854775808≤n) (h1:n≤9223372036854775807) (w:World) (htab:Lib.TabIs Tryz.prog w "internal/strconv.uint64pow10" .u64 Lib.pow10Tab) :
  Calls Tryz.prog 39 #[.int .i64 n] w fun e w'=>e=.returned (.string ⟨(Lib.itoa n).toArray⟩)∧∃ k os,w'=grow (w.drewN k) os:=Any.strconv_Itoa Tryz.laysM171 n h0 h1 w htab
end Go.Proofs
namespace Go.Proofs
open Go.Shelf
def Tryz.lays122_ren:Go.Shelf.Ren:=⟨fun|122=>133|215=>170|n=>n,fun|3=>3|4=>4|n=>n,fun|n=>n⟩
theorem Tryz.lays122:Go.Proofs.Lays.n122 Tryz.prog Tryz.lays122_ren:={
 mixed:=by kernel_rfl
 f122:=Tryz.func133.trans (congrArg some (by kernel_rfl))
 f215:=Tryz.func170.trans (congrArg some (by kernel_rfl))
 t3:=Tryz.underlying3
 a3:=Tryz.isAgg3
 z3:=Tryz.sizeOf3
 v3:=Tryz.zeroValue3
 t4:=Tryz.underlying4
 a4:=Tryz.isAgg4
 z4:=Tryz.sizeOf4
 v4:=Tryz.zeroValue4 }
open Go.RowKit in
theorem Tryz.cmp_Compare_int (x y:Int) (w:World) :
  Calls Tryz.prog 133 #[.int .i64 x,.int .i64 y] w fun e w'=>e=.returned (.int .i64 (Lib.compareInt x y))∧w'=w:=Any.cmp_Compare_int Tryz.lays122 x y w
def Tryz.lays144_ren:Go.Shelf.Ren:=⟨fun|144=>125|143=>164|219=>181|217=>190|225=>191|224=>192|267=>193|266=>197|314=>198|n=>n,fun|9=>9|4=>4|3=>3|5=>5|46=>113|146=>173|51=>146|n=>n,fun|1=>1|n=>n⟩
theorem Tryz.lays144:Go.Proofs.Lays.n144 Tryz.prog Tryz.lays144_ren:={
 mixed:=by kernel_rfl
 f143:=Tryz.func164.trans (congrArg some (by kernel_rfl))
 f144:=Tryz.func125.trans (congrArg some (by kernel_rfl))
 f217:=Tryz.func190.trans (congrArg some (by kernel_rfl))
 f219:=Tryz.func181.trans (congrArg some (by kernel_rfl))
 f224:=Tryz.func192.trans (congrArg some (by kernel_rfl))
 f225:=Tryz.func191.trans (congrArg some (by kernel_rfl))
 f266:=Tryz.func197.trans (congrArg some (by kernel_rfl))
 f267:=Tryz.func193.trans (congrArg some (by kernel_rfl))
 f314:=Tryz.func198.trans (congrArg some (by kernel_rfl))
 t3:=Tryz.underlying3
 a3:=Tryz.isAgg3
 z3:=Tryz.sizeOf3
 v3:=Tryz.zeroValue3
 t4:=Tryz.underlying4
 a4:=Tryz.isAgg4
 z4:=Tryz.sizeOf4
 v4:=Tryz.zeroValue4
 t5:=Tryz.underlying5
 a5:=Tryz.isAgg5
 z5:=Tryz.sizeOf5
 v5:=Tryz.zeroValue5
 t9:=Tryz.underlying9
 a9:=Tryz.isAgg9
 z9:=Tryz.sizeOf9
 v9:=Tryz.zeroValue9
 t46:=Tryz.underlying113
 a46:=Tryz.isAgg113
 z46:=Tryz.sizeOf113
 v46:=Tryz.zeroValue113
 t51:=Tryz.underlying146
 a51:=Tryz.isAgg146
 z51:=Tryz.sizeOf146
 v51:=Tryz.zeroValue146
 t146:=Tryz.underlying173
 a146:=Tryz.isAgg173
 z146:=Tryz.sizeOf173
 v146:=Tryz.zeroValue173
 g1:=by kernel_rfl }
open Go.RowKit Go.Lib in
theorem Tryz.strings_Contains (s sub:ByteArray) (m:Int) (w:World) (hs:s.size<4294967281) (hm:w.cell? ⟨1,0,none⟩=some (.int .i64 m)) :
  Calls Tryz.prog 125 #[.string s,.string sub] w fun e w'=>e=.returned (.bool (Lib.contains s.data.toList sub.data.toList))∧w'=w:=Any.strings_Contains Tryz.lays144 s sub m w hs hm
def Tryz.lays189_ren:Go.Shelf.Ren:=⟨fun|189=>65|125=>108|257=>107|128=>156|129=>157|294=>147|295=>148|296=>149|297=>150|298=>151|299=>152|216=>153|300=>154|301=>155|328=>175|329=>176|330=>177|331=>178|332=>179|215=>170|343=>189|n=>n,fun|28=>32|3=>3|46=>113|0=>0|51=>146|53=>148|4=>4|183=>140|182=>139|131=>90|5=>5|9=>9|218=>156|222=>160|228=>169|229=>170|n=>n,fun|n=>n⟩
theorem Tryz.lays189:Go.Proofs.Lays.n189 Tryz.prog Tryz.lays189_ren:={
 mixed:=by kernel_rfl
 f125:=Tryz.func108.trans (congrArg some (by kernel_rfl))
 f128:=Tryz.func156.trans (congrArg some (by kernel_rfl))
 f129:=Tryz.func157.trans (congrArg some (by kernel_rfl))
 f189:=Tryz.func65.trans (congrArg some (by kernel_rfl))
 f215:=Tryz.func170.trans (congrArg some (by kernel_rfl))
 f216:=Tryz.func153.trans (congrArg some (by kernel_rfl))
 f257:=Tryz.func107.trans (congrArg some (by kernel_rfl))
 f294:=Tryz.func147.trans (congrArg some (by kernel_rfl))
 f295:=Tryz.func148.trans (congrArg some (by kernel_rfl))
 f296:=Tryz.func149.trans (congrArg some (by kernel_rfl))
 f297:=Tryz.func150.trans (congrArg some (by kernel_rfl))
 f298:=Tryz.func151.trans (congrArg some (by kernel_rfl))
 f299:=Tryz.func152.trans (congrArg some (by kernel_rfl))
 f300:=Tryz.func154.trans (congrArg some (by kernel_rfl))
 f301:=Tryz.func155.trans (congrArg some (by kernel_rfl))
 f328:=Tryz.func175.trans (congrArg some (by kernel_rfl))
 f329:=Tryz.func176.trans (congrArg some (by kernel_rfl))
 f330:=Tryz.func177.trans (congrArg some (by kernel_rfl))
 f331:=Tryz.func178.trans (congrArg some (by kernel_rfl))
 f332:=Tryz.func179.trans (congrArg some (by kernel_rfl))
 f343:=Tryz.func189.trans (congrArg some (by kernel_rfl))
 t0:=Tryz.underlying0
 a0:=Tryz.isAgg0
 z0:=Tryz.sizeOf0
 v0:=Tryz.zeroValue0
 t3:=Tryz.underlying3
 a3:=Tryz.isAgg3
 z3:=Tryz.sizeOf3
 v3:=Tryz.zeroValue3
 t4:=Tryz.underlying4
 a4:=Tryz.isAgg4
 z4:=Tryz.sizeOf4
 v4:=Tryz.zeroValue4
 t5:=Tryz.underlying5
 a5:=Tryz.isAgg5
 z5:=Tryz.sizeOf5
 v5:=Tryz.zeroValue5
 t9:=Tryz.underlying9
 a9:=Tryz.isAgg9
 z9:=Tryz.sizeOf9
 v9:=Tryz.zeroValue9
 t28:=Tryz.underlying32
 a28:=Tryz.isAgg32
 z28:=Tryz.sizeOf32
 v28:=Tryz.zeroValue32
 t46:=Tryz.underlying113
 a46:=Tryz.isAgg113
 z46:=Tryz.sizeOf113
 v46:=Tryz.zeroValue113
 t51:=Tryz.underlying146
 a51:=Tryz.isAgg146
 z51:=Tryz.sizeOf146
 v51:=Tryz.zeroValue146
 t53:=Tryz.underlying148
 a53:=Tryz.isAgg148
 z53:=Tryz.sizeOf148
 v53:=Tryz.zeroValue148
 t131:=Tryz.underlying90
 a131:=Tryz.isAgg90
 z131:=Tryz.sizeOf90
 v131:=Tryz.zeroValue90
 t182:=Tryz.underlying139
 a182:=Tryz.isAgg139
 z182:=Tryz.sizeOf139
 v182:=Tryz.zeroValue139
 t183:=Tryz.underlying140
 a183:=Tryz.isAgg140
 z183:=Tryz.sizeOf140
 v183:=Tryz.zeroValue140
 t218:=Tryz.underlying156
 a218:=Tryz.isAgg156
 z218:=Tryz.sizeOf156
 v218:=Tryz.zeroValue156
 t222:=Tryz.underlying160
 a222:=Tryz.isAgg160
 z222:=Tryz.sizeOf160
 v222:=Tryz.zeroValue160
 t228:=Tryz.underlying169
 a228:=Tryz.isAgg169
 z228:=Tryz.sizeOf169
 v228:=Tryz.zeroValue169
 t229:=Tryz.underlying170
 a229:=Tryz.isAgg170
 z229:=Tryz.sizeOf170
 v229:=Tryz.zeroValue170 }
open Go.Sort Go.RowKit in
theorem Tryz.slices_Sort_int (blk off cap:Nat) (zs:List Int) (w:World) (hH:Holds (Value.int .i64) w blk off zs.toArray) (hblk:blk<w.heap.size) (hsz:zs.length<4611686018427387904) :
  Calls Tryz.prog 65 #[.slice (some ⟨blk,off,none⟩) zs.length cap] w fun e w' =>
   e=.returned (.tuple #[])∧∃ n os,w'=grow (putRow (Value.int .i64) (Sort.ahead w n) blk off (zs.mergeSort fun x y=>decide (x≤y)).toArray) os:=Any.slices_Sort_int Tryz.lays189 blk off cap zs w hH hblk hsz
def Tryz.lays102_ren:Go.Shelf.Ren:=⟨fun|102=>40|209=>83|207=>130|n=>n,fun|9=>9|4=>4|3=>3|n=>n,fun|n=>n⟩
theorem Tryz.lays102:Go.Proofs.Lays.n102 Tryz.prog Tryz.lays102_ren:={
 mixed:=by kernel_rfl
 f102:=Tryz.func40.trans (congrArg some (by kernel_rfl))
 f207:=Tryz.func130.trans (congrArg some (by kernel_rfl))
 f209:=Tryz.func83.trans (congrArg some (by kernel_rfl))
 t3:=Tryz.underlying3
 a3:=Tryz.isAgg3
 z3:=Tryz.sizeOf3
 v3:=Tryz.zeroValue3
 t4:=Tryz.underlying4
 a4:=Tryz.isAgg4
 z4:=Tryz.sizeOf4
 v4:=Tryz.zeroValue4
 t9:=Tryz.underlying9
 a9:=Tryz.isAgg9
 z9:=Tryz.sizeOf9
 v9:=Tryz.zeroValue9 }
open Go.RowKit Go.Lib in
theorem Tryz.strings_TrimSuffix (s p:ByteArray) (w:World) (hs:s.size≤9223372036854775807) :
  Calls Tryz.prog 40 #[.string s,.string p] w fun e w'=>e=.returned (.string ⟨(Lib.trimSuffix s.data.toList p.data.toList).toArray⟩)∧w'=w:=Any.strings_TrimSuffix Tryz.lays102 s p w hs
def Tryz.laysGw17_ren:Go.Shelf.Ren:=⟨fun|17=>126|15=>165|20=>182|n=>n,fun|9=>9|23=>127|4=>4|3=>3|0=>0|21=>21|n=>n,fun|n=>n⟩
theorem Tryz.laysGw17:Go.Proofs.LaysGw.n17 Tryz.prog Tryz.laysGw17_ren:={
 mixed:=by kernel_rfl
 f15:=Tryz.func165.trans (congrArg some (by kernel_rfl))
 f17:=Tryz.func126.trans (congrArg some (by kernel_rfl))
 f20:=Tryz.func182.trans (congrArg some (by kernel_rfl))
 t0:=Tryz.underlying0
 a0:=Tryz.isAgg0
 z0:=Tryz.sizeOf0
 v0:=Tryz.zeroValue0
 i0:=by kernel_rfl
 t3:=Tryz.underlying3
 a3:=Tryz.isAgg3
 z3:=Tryz.sizeOf3
 v3:=Tryz.zeroValue3
 i3:=by kernel_rfl
 t4:=Tryz.underlying4
 a4:=Tryz.isAgg4
 z4:=Tryz.sizeOf4
 v4:=Tryz.zeroValue4
 i4:=by kernel_rfl
 t9:=Tryz.underlying9
 a9:=Tryz.isAgg9
 z9:=Tryz.sizeOf9
 v9:=Tryz.zeroValue9
 i9:=by kernel_rfl
 t21:=Tryz.underlying21
 a21:=Tryz.isAgg21
 z21:=Tryz.sizeOf21
 v21:=Tryz.zeroValue21
 i21:=by kernel_rfl
 t23:=Tryz.underlying127
 a23:=Tryz.isAgg127
 z23:=Tryz.sizeOf127
 v23:=Tryz.zeroValue127
 i23:=by kernel_rfl }
open Go.RowKit Go.Lib in
theorem Tryz.strings_ContainsFunc_grows (g:Nat) (lb:Array Value) (eg:∀ args w,(callFunc g args).run Tryz.prog w=.ok (.enter g args) w) (p:Nat→Bool) (s:ByteArray) (w:World) (hp:PredGrows Tryz.prog g lb p w) :
  Calls Tryz.prog 126 #[.string s,.func (.func g) #[] lb] w fun e w'=>e=.returned (.bool (decide (0≤Lib.idxFunc p true s)))∧Below w.heap.size w w':=Any.strings_ContainsFunc_grows Tryz.laysGw17 g lb eg p s w hp
def Tryz.laysNm220_ren:Go.Shelf.Ren:=⟨fun|20=>66|n=>n,fun|22=>32|3=>3|4=>4|0=>0|n=>n,fun|n=>n⟩
theorem Tryz.laysNm220:Go.Proofs.Lays2.n20 Tryz.prog Tryz.laysNm220_ren:={
 mixed:=by kernel_rfl
 f20:=Tryz.func66.trans (congrArg some (by kernel_rfl))
 t0:=Tryz.underlying0
 a0:=Tryz.isAgg0
 z0:=Tryz.sizeOf0
 v0:=Tryz.zeroValue0
 t3:=Tryz.underlying3
 a3:=Tryz.isAgg3
 z3:=Tryz.sizeOf3
 v3:=Tryz.zeroValue3
 t4:=Tryz.underlying4
 a4:=Tryz.isAgg4
 z4:=Tryz.sizeOf4
 v4:=Tryz.zeroValue4
 t22:=Tryz.underlying32
 a22:=Tryz.isAgg32
 z22:=Tryz.sizeOf32
 v22:=Tryz.zeroValue32
 i3:=by kernel_rfl }
open Go.RowKit Go.Lib Go.Sort in
theorem Tryz.slices_Compact_int (blk off cap:Nat) (zs:List Int) (w:World) (hH:Holds (Value.int .i64) w blk off zs.toArray) (hsz:zs.length≤9223372036854775807) (hcap:zs.length≤cap) :
  Calls Tryz.prog 66 #[.slice (some ⟨blk,off,none⟩) zs.length cap] w fun e w'=>e=.returned (.slice (some ⟨blk,off,none⟩) (Lib.compact zs).length cap)∧∃ q,w'=putRow (Value.int .i64) (Sort.ahead w q) blk off (Lib.compact zs++List.replicate (zs.length-(Lib.compact zs).length) 0).toArray:=Any.slices_Compact_int Tryz.laysNm220 blk off cap zs w hH hsz hcap
open Go.RowKit Go.Lib Go.Sort in
theorem Tryz.slices_Compact_int_empty (a:Option Addr) (cap:Nat) (w:World) :
  Calls Tryz.prog 66 #[.slice a 0 cap] w fun e w'=>e=.returned (.slice a 0 cap)∧w'=w:=Any.slices_Compact_int_empty Tryz.laysNm220 a cap w
open Go.RowKit Go.Sort in
theorem Tryz.slices_Sort_int_none (p:Option Addr) (cap:Nat) (w:World) :
  Calls Tryz.prog 65 #[.slice p 0 cap] w fun e w'=>e=.returned (.tuple #[])∧w'=w:=Any.slices_Sort_int_none Tryz.lays189 p cap w
end Go.Proofs