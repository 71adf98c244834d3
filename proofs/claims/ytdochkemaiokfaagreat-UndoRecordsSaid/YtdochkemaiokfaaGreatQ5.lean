/- Lemmas on what the functions of the program and of the library compute: InsI, InsB, PlainH, T10, PlainK, PlainM, T5X. The conditions stand at each. -/
import Derived.Test.YtdochkemaiokfaaGreatQ4
import Derived.Test.YtdochkemaiokfaaGreatQ2
import Derived.Test.YtdochkemaiokfaaGreatQ1
import Derived.Shelf.Small.Bits
import Derived.Shelf.Small.Strs
import Derived.Shelf.Small.Wraps
import Derived.Shelf.Strings.Search3
import Derived.Shelf.LaysM
import Derived.Shelf.Strings.Shaped
import Derived.Shelf.Sort.Plain
import Derived.Shelf.Strings.FuncGrows
import Derived.Shelf.Slices.Reverse
import Derived.Ground.Names2Prog
import Derived.Shelf.Slices.SearchI
import Derived.Shelf.Slices.In.SortNone
import Derived.Test.YtdochkemaiokfaaGreatProg
import Derived.Test.YtdochkemaiokfaaGreatQ3
set_option maxHeartbeats 16000000
set_option maxRecDepth 100000
set_option linter.all false
namespace Go.Proofs.YtdochkemaiokfaaGreat
open Go.RowKit
theorem e_19 {p:Prop} (h:p:=by
 go_ret;exact⟨_,rfl,hown3,hgr3,hat3.imp (fun h=>h.symm) (fun h b hb=>by simp[Value.ownBlock] at hb;omega)⟩
):p:=h
theorem c_46 {p:Prop} (h:p:=by
 go_enter Tryz.func187,Tryz.ntmps187;go_wp2_with (at_builtin;refine wpList_append_lies _ rfl _ _ 38 rfl w0.heap.size 3 i0 (.int .i64 0) 1 8 Tryz.underlying38 hi hz0 hz1 hz2 rfl b_53 _ _ _ b_55 HO.out ⟨vb,0,none⟩ 1 1 xc b_55 HX.out (fun j u hj=>by rw[bT];exact HV.out j u hj) H1.out b_53 b_47 b_53 hG.size w.heap.size rfl ?_;intro g3 cap3 w3 hown3 hgr3 hat3 hlt3)
 exact e_19
):p:=h
theorem c_72 {p:Prop} (h:p:=by
 rcases hown.2 with ⟨rfl,rfl⟩|⟨g,cap,cur,rfl,_,_,h1,h2,_⟩
 ·exact⟨_,_,rfl,Nat.le_refl _,Nat.zero_le _,fun _=>⟨rfl,rfl⟩⟩
 ·exact⟨_,_,rfl,h1,h2,fun h=>by cases h⟩
):p:=h
theorem c_78 {p:Prop} (h:p:=by
 rw[HC.out,List.append_assoc,← HPQ.out.1,List.getElem?_append_right b_53,Nat.add_sub_cancel_left,List.getElem?_append_left (List.getElem?_eq_some_iff.1 hj).1];exact hj
):p:=h
theorem c_90 {p:Prop} (h:p:=by
 have HGR:=uZ (xS hG hG2 hg2 (fun b hb=>(hk2 b hb).trans (HK1.out b hb)));clear hg2 hG2 hvb1 hk2;go_wp2;go_ret;exact⟨_,rfl,HFin.out,HGR.out,.inl rfl⟩
):p:=h
theorem c_100 {p:Prop} (h:p:=by
 go_wp2;go_ret;exact⟨_,rfl,HFin.out,dA HW3.out _,.inr fun b hb=>by simp[Value.ownBlock] at hb;rw[← hb,HH.out];exact Nat.le_refl _⟩
):p:=h
theorem c_102 {p:Prop} (h:p:=by
 exact e_19
):p:=h
theorem c_111 {p:Prop} (h:p:=by
 rw[length_splice _ _ _ b_40,List.length_append];omega
):p:=h
theorem c_125 {p:Prop} (h:p:=by
 congr 1
 simp only [Nat.min_def];split<;>omega
):p:=h
theorem h_77 {p:Prop} (h:p:=by
 exact(show ∃(A:Option Addr) (c:Nat),v=.slice A n c∧n≤c∧c≤maxLen∧(A=none→n=0∧c=0) from by
  exact c_72)
):p:=h
theorem h_124 {p:Prop} (h:p:=by
 exact uZ (fun j u hj=>(by rw[Nat.zero_add];exact dV hv j u hj:w.cell? ⟨vb,0+j,none⟩=some u))
):p:=h
theorem h_134 {p:Prop} (h:p:=by
 exact uZ (show(∀ v∈q,v.oneCell'=true)∧(∀ v∈xc,v.oneCell'=true) from⟨h1c,h1x⟩)
):p:=h
theorem h_136 {p:Prop} (h:p:=by
 exact uZ (show w2.heap[w.heap.size]? = _∧w2.heap[g]? = _∧aA w w2 from⟨hh2,hg2,hgr2⟩)
):p:=h
theorem h_142 {p:Prop} (h:p:=by
 exact(show IntKind.i64.wrap ((i:Int)+1)=(i:Int)+1 from IntWalk.i64_in _ b_53)
):p:=h
theorem h_152 {p:Prop} (h:p:=by
 exact(show Nat.min 1 (n+1-i)=1 from by simp only [Nat.min_def];split<;>omega)
):p:=h
theorem h_163 {p:Prop} (h:p:=by
 exact(show(n:Int)+1-(i:Int)=((n+1-i:Nat):Int) from by omega)
):p:=h
theorem h_179 {p:Prop} (h:p:=by
 exact(show vb<w.heap.size from(Array.getElem?_eq_some_iff.1 hv).1)
):p:=h
theorem h_184 {p:Prop} (h:p:=by
 exact(show g<w.heap.size from(Array.getElem?_eq_some_iff.1 hg).1)
):p:=h
theorem h_202 {p:Prop} (h:p:=by
 exact(show((i:Int)+1).toNat=i+1 from by omega)
):p:=h
theorem h_203 {p:Prop} (h:p:=by
 exact(show(i:Int)+1≤(n:Int)+1 from by omega)
):p:=h
theorem h_209 {p:Prop} (h:p:=by
 exact(show ¬ ((i:Int)=(n:Int)) from by omega)
):p:=h
theorem h_210 {p:Prop} (h:p:=by
 exact(show(i:Int)≤(n:Int)+1 from by omega)
):p:=h
theorem h_211 {p:Prop} (h:p:=by
 exact(show(0:Int)≤(i:Int)+1 from by omega)
):p:=h
theorem h_224 {p:Prop} (h:p:=by
 exact(show ¬ (cap=i) from by omega)
):p:=h
theorem s_28 {p:Prop} (h:p:=by
 go_wp2_with (at_builtin;refine Lib.wpList_append_run _ rfl _ _ _ _ rfl _ _ rfl rfl _ _ (hrun1 _) ?_)
 have hw1:=h_142;have hb6:=h_211;have htn:=h_202;have hb7:=h_203;have h0i:=h_215;refine bN 8 (by kernel_rfl) (by kernel_rfl) ?_;simp only [List.take_succ_cons,List.take_zero,List.drop_succ_cons,List.drop_zero]
 iterate 8 still_step
 clear hw1 hb6 htn hb7;exact nX.g
):p:=h
theorem s_47 {p:Prop} (h:p:=by
 go_wp2_with (simp only [hov])
 have hw1:=h_142;have hb1:=h_211;have htn:=h_202;have hb5:=h_203;have h0i:=h_215;refine bN 8 (by kernel_rfl) (by kernel_rfl) ?_;simp only [List.take_succ_cons,List.take_zero,List.drop_succ_cons,List.drop_zero]
 iterate 8 still_step
 clear hw1 hb1 htn hb5;exact nX.g
):p:=h
theorem s_50 {p:Prop} (h:p:=by
 have hz1:=h_209;have hz3:(cap:Int)<(n:Int)+1:=by omega
 have hb2:¬ (G=i+1):=by omega
 have hb3:=h_210;have hb4:=h_224;have hb5:¬ (G=i):=by omega
 have hin:i≤n:=by omega
 have hin2:(i:Int)≤(n:Int):=by omega
 have HR2:=h_136;have HC:=uZ hcur;exact nX.g
):p:=h
def iF (e:TypeId) (k:Nat) (cs:List Value) (n base:Nat) (s:Value) (w:World) (x:Ending) (w':World):Prop:=∃ v,x=.returned v∧w'.ownsRow base e k v n cs∧w.grownBy w' s.ownBlock∧(v.ownBlock=s.ownBlock∨∀ b,v.ownBlock=some b→w.heap.size≤b)
theorem xS {w0 w w':World} {g:Nat} {o:Obj} (h:aA w0 w) (h':aA w0 w') (hg:w'.heap[g]? = some o) (hk:∀ b,b≠g→w'.heap[b]? = w.heap[b]?):w.grownBy w' (some g):=by
 refine⟨h'.os.trans h.os.symm,h'.tape.trans h.tape.symm,h'.output.trans h.output.symm,?_,fun k _ hne=>hk k (fun e=>hne (by rw[e]))⟩;refine Nat.le_of_not_lt fun hlt=>?_
 have hgl:=(Array.getElem?_eq_some_iff.1 hg).1;have h1:=hk w'.heap.size b_53;rw[Array.getElem?_eq_none (Nat.le_refl _),Array.getElem?_eq_getElem hlt] at h1;cases h1
theorem dA {w w':World} (h:aA w w') (row:Option Nat):w.grownBy w' row:=⟨h.os,h.tape,h.output,h.size,fun k hk _=>h.block k hk⟩
theorem rK {a b c:World} {row:Option Nat} (h:aA a b) (k:b.grownBy c row):a.grownBy c row:=(dA h row).trans k
theorem iR {w:World} {g base n cap k:Nat} {e:TypeId} {cur xs:List Value} (hb:base≤g) (hg:w.heap[g]? = some (.cells cur.toArray e (0,0))) (hn:n≤cap) (hc:cap≤maxLen) (hs:cur.length=cap*k) (hx:xs.length=n*k) (ht:∃ r,cur=xs++r):w.ownsRow base e k (.slice (some ⟨g,0,none⟩) n cap) n xs:=by
 obtain⟨r,rfl⟩:=ht;refine⟨hx,.inr ⟨g,cap,_,rfl,hb,hg,hn,hc,by simpa using hs,?_⟩⟩;rw[← hx];simp
theorem bCh (w:World):(Go.sizeOf 3).run Tryz.prog w=.ok 1 w:=by kernel_rfl
theorem xN:(Tryz.prog.info? 3).map (·.size)=some 1:=by kernel_rfl
theorem aLk (w:World) (g vb o:Nat) (hne:vb≠g) (cur xc:List Value) (hg:w.heap[g]? = some (.cells cur.toArray 3 (0,0))) (hv:w.heap[vb]? = some (.cells xc.toArray 3 (0,0))) (hpos:0<cur.length) (lb cb:Nat) :
  (callFunc 218 #[.slice (some ⟨vb,0,none⟩) 1 1,.slice (some ⟨g,o,none⟩) lb cb]).run Tryz.prog w=.ok (.value (.bool false)) w:=by
 rw[run_callFunc_extern Tryz.func218 (by kernel_rfl) (by kernel_rfl) (by kernel_rfl) (e:=Extern.SlicesOverlaps.overlaps #[38,38] #[4]) (by kernel_rfl),
  Lib.run_overlaps_apart w 38 4 3 Tryz.underlying38 1 bCh ⟨vb,0,none⟩ ⟨g,o,none⟩ 1 1 lb cb hne 3 3 xc.toArray.size cur.toArray.size (by simp[World.shape?,hv]) (by simp[World.shape?,hg]) (by simp only [List.size_toArray];omega) b_43 b_43]
 rfl
def zHh:=Unit
theorem zHh.g {p:Prop} (_:zHh) (h:p:=by
 refine wpStill_nil ?_;refine aIi rfl _ _ 38 38 rfl 3 Tryz.underlying38 1 xN g ((i+1)) (n-i) (cap-(i+1)) ⟨g,i,none⟩ (n+1-i) (cap-i) b_55 b_55 cur 3 (by have:=HG0.out;exact this) q ?_ ?_ ?_ ?_ w0 (by exact hG.drew) hbg ?_
 ·rw[HPQ.out.2.1]
  exact c_125
 ·intro j v hj
  rw[bT];refine dV HG0.out (i+j) v ?_;exact c_78
 ·have h1:=HPQ.out
  rw[HC.out];simp only [List.length_append];omega
 ·exact fun v hv=>H1.out.1 v hv
 intro w1 HG1 HW1 HK1;have hvb1:w1.heap[vb]? = some (.cells xc.toArray 3 (0,0)):=(HK1.out vb hne).trans HV.out
 obtain⟨w2,hrun,hg2,hG2,hk2⟩:=nI (P:=Tryz.prog) w1 38 38 3 Tryz.underlying38 1 xN g (i) (n+1-i) (cap-i) ⟨vb,0,none⟩ 1 1 _ 3 HG1.out xc (by
   rw[HPQ.out.2.2.2];have:Nat.min 1 (n+1-i)=1:=by simp only [Nat.min_def];split<;>omega
   rw[this]) (fun j v hj=>by rw[bT,Nat.zero_add];exact dV hvb1 j v hj) (by
   have h1:=HPQ.out;rw[length_splice _ _ _ b_29,HC.out];simp only [List.length_append]
   omega) H1.out.2 w0 HW1.out hbg
 have HFin:RowKit.Hid (w2.ownsRow w0.heap.size 3 1 (.slice (some ⟨g,0,none⟩) (n+1) cap) (n+1) (p++xc++q)):=by
  have h1:=HPQ.out;have hs:=lP p q r xc b_53;rw[h1.1,h1.2.2.2,← HC.out,show i+1=(i+1) by omega] at hs;refine iR hbg hg2 b_53 b_47 ?_ (by simp only [List.length_append];omega) ⟨_,hs⟩;rw[length_splice _ _ _ b_7,length_splice _ _ _ b_29];have:=HCL.out;omega
 exact c_90
):p:=h
theorem aMj (w0:World) (g cap n i vb:Nat) (cur p q r xc:List Value) (w:World) (hi:i<n) (hroom:n+1≤cap) (hc:cap≤maxLen) (hne:vb≠g) (hG:aA w0 w) (hbg:w0.heap.size≤g)
  (hg:w.heap[g]? = some (.cells cur.toArray 3 (0,0))) (hcur:cur=p++q++r) (hp:p.length=i) (hq:q.length=(n-i)) (hr:1≤r.length) (hcl:cur.length=cap)
  (hv:w.heap[vb]? = some (.cells xc.toArray 3 (0,0))) (hx:xc.length=1) (h1c:∀ v∈q,v.oneCell'=true) (h1x:∀ v∈xc,v.oneCell'=true) :
  Calls Tryz.prog 187 #[.slice (some ⟨g,0,none⟩) n cap,.int .i64 i,.slice (some ⟨vb,0,none⟩) 1 1] w (iF 3 1 (p++xc++q) (n+1) w0.heap.size (.slice (some ⟨g,0,none⟩) n cap) w):=by
 have hlen:cur.length=i+(n-i)+r.length:=by rw[hcur];simp only [List.length_append,hp,hq]
 unfold maxLen at hc;have hov:=fun lb cb=>aLk w g vb ((i+1)) hne cur xc hg hv b_53 lb cb
 have hz1:=h_209;have hb2:¬ (cap=i+1):=by omega
 have hb3:=h_210;have hb4:=h_224;have hin:i≤n:=by omega
 have HG0:=uZ hg;have HV:=uZ hv;have HC:=uZ hcur;have HPQ:=uZ (show p.length=i∧q.length=(n-i)∧1≤r.length∧xc.length=1 from⟨hp,hq,hr,hx⟩);have H1:=h_134;have HCL:=uZ hcl;clear hg hv hcur hp hq hr hx h1c h1x hlen hcl;go_enter Tryz.func187,Tryz.ntmps187;have nX:zHh:=()
 exact s_47
theorem aXk (w:World) (g cap n i:Nat) (cur p q:List Value) (hi:i<n) (hnc:n≤cap) (hroom:cap<n+1) (hn:n≤1000000) (hg:w.heap[g]? = some (.cells cur.toArray 3 (0,0))) (hcur:∃ r,cur=p++q++r) (hp:p.length=i) :
  ∃(G:Nat) (Z:List Value) (w1:World),(∀ ty,(Builtin.append_ #[38,3] ty #[.slice (some ⟨g,0,none⟩) i cap,.int .i64 ((n:Int)+1-(i:Int))]).run Tryz.prog w=.ok (.slice (some ⟨w.heap.size,0,none⟩) (n+1) G) w1) ∧
   n+1≤G∧G≤maxLen∧w1.heap[w.heap.size]? = some (.cells (p++Z).toArray 3 (0,0))∧(n+1-i)≤Z.length∧i+Z.length=G∧aA w w1:=by
 obtain⟨i0,hi0,hz0,hz1,hz2⟩:=info_parts lJ;obtain⟨r,hcur⟩:=hcur;have hkk:=h_163;have hik:i+(n+1-i)=n+1:=by omega
 have hold:(Builtin.firstCells i0.size i (.slice (some ⟨g,0,none⟩) i cap)).run Tryz.prog w.drew=.ok p.toArray w.drew:=by
  rw[hz1];refine run_firstCells_some w.drew 1 i ⟨g,0,none⟩ i cap p b_53 (fun j v hj=>?_);rw[bT,Nat.zero_add];refine dV (w:=w.drew) hg j v ?_;rw[hcur,List.append_assoc,List.getElem?_append_left (List.getElem?_eq_some_iff.1 hj).1];exact hj
 have h:=fun ty=>Lib.run_append_grow_zeros w 38 3 ty 3 i0 _ .i64 .i64 Tryz.underlying38 Tryz.underlying3 hi0 hz0 (some ⟨g,0,none⟩) i cap p hold (n+1-i) b_53 b_53 b_53 b_53 (by rw[hz2];omega) (by rw[hz2,hik];exact growslice_fits hroom b_53)
 simp only [hik] at h;rw[hkk];obtain⟨ZC,hZC⟩:∃ ZC,ZC=(Value.int .i64 0).cells:=⟨_,rfl⟩
 have hZs:ZC.size=1:=by rw[hZC];rfl
 rw[← hZC] at h;refine⟨_,(Builtin.zeroCells ZC (n+1-i)++Builtin.zeroCells ZC (grownCap w (n+1) cap 3-(n+1))).toList,_,h,grownCap_ge w _ _ _,grownCap_le_maxLen w (n+1) cap _ b_47,?_,?_,?_,(uX w).drew.alloc _⟩
 ·have:=heap_alloc_last w.drew (.cells (p.toArray++Builtin.zeroCells ZC (n+1-i)++Builtin.zeroCells ZC (grownCap w (n+1) cap 3-(n+1))) 3 (0,0))
  rw[show(p++(Builtin.zeroCells ZC (n+1-i)++Builtin.zeroCells ZC (grownCap w (n+1) cap 3-(n+1))).toList).toArray=p.toArray++Builtin.zeroCells ZC (n+1-i)++Builtin.zeroCells ZC (grownCap w (n+1) cap 3-(n+1)) by simp[Array.append_assoc]];exact this
 ·simp[Builtin.zeroCells,hZs]
 ·have h9:=grownCap_ge w (n+1) cap 3
  simp only [Builtin.zeroCells,hZs,Array.toList_append,List.length_append,Array.length_toList,Array.size_map,Array.size_range];omega
def zFx:=Unit
theorem zFx.g {p:Prop} (_:zFx) (h:p:=by
 refine wpStill_nil ?_;refine aIi rfl _ _ 38 38 rfl 3 Tryz.underlying38 1 xN H ((i+1)) (n-i) (G-(i+1)) ⟨g,i,none⟩ (n-i) (cap-i) b_55 b_55 _ 3 (by have:=HR2.out.1;exact this) q ?_ ?_ ?_ ?_ w (by exact HR2.out.2.2.drew) (by rw[HH.out];exact Nat.le_refl _) ?_
 ·rw[HPQ.out.2.1]
  exact c_125
 ·intro j v hj
  rw[bT];refine dV (w:=w2.drew) HR2.out.2.1 (i+j) v ?_;exact c_78
 ·have h1:=HPQ.out
  exact c_111
 ·exact fun v hv=>H1.out.1 v hv
 intro w3 HG3 HW3 HK3
 have HFin:RowKit.Hid (w3.ownsRow w0.heap.size 3 1 (.slice (some ⟨H,0,none⟩) (n+1) G) (n+1) (p++xc++q)):=by
  have h1:=HPQ.out;have hs:=pV p q Z xc;rw[h1.1,h1.2.2.1,show i+1=(i+1) by omega] at hs;refine iR (by rw[HH.out];exact hG.size) HG3.out b_53 b_47 ?_ (by simp only [List.length_append];omega) ⟨_,hs⟩;rw[length_splice _ _ _ (by rw[length_splice _ _ _ b_40,List.length_append];omega),length_splice _ _ _ b_40,List.length_append,h1.1];have:=h1.2.2.2.2;omega
 exact c_100
):p:=h
def zHy:=Unit
theorem zHy.g {p:Prop} (_:zHy) (h:p:=by
 have HPQ:=uZ (show p.length=i∧q.length=(n-i)∧xc.length=1∧(n+1-i)≤Z.length∧i+Z.length=G from⟨hp,hq,hx,hZ,hZl⟩);have H1:=h_134;clear hg hv hcur hp hq hx h1c h1x hh1 hZ hZl hgr1 hv1 hg1 hmin hh2 hgr2 hk2 hg2 hglt hvlt;obtain⟨H,hH⟩:∃ H,H=w.heap.size:=⟨_,rfl⟩
 rw[← hH] at HR2 hrun1 hrun2;have HH:=uZ hH;clear hH;go_enter Tryz.func187,Tryz.ntmps187;have nX:zFx:=()
 exact s_28
):p:=h
theorem aRc (w0:World) (g cap n i vb:Nat) (cur p q r xc:List Value) (w:World) (hi:i<n) (hnc:n≤cap) (hroom:cap<n+1) (hn:n≤1000000) (hG:aA w0 w)
  (hg:w.heap[g]? = some (.cells cur.toArray 3 (0,0))) (hcur:cur=p++q++r) (hp:p.length=i) (hq:q.length=(n-i))
  (hv:w.heap[vb]? = some (.cells xc.toArray 3 (0,0))) (hx:xc.length=1) (h1c:∀ v∈q,v.oneCell'=true) (h1x:∀ v∈xc,v.oneCell'=true) :
  Calls Tryz.prog 187 #[.slice (some ⟨g,0,none⟩) n cap,.int .i64 i,.slice (some ⟨vb,0,none⟩) 1 1] w (iF 3 1 (p++xc++q) (n+1) w0.heap.size (.slice (some ⟨g,0,none⟩) n cap) w):=by
 obtain⟨G,Z,w1,hrun1,hG1,hG2,hh1,hZ,hZl,hgr1⟩:=aXk w g cap n i cur p q hi hnc hroom hn hg ⟨r,hcur⟩ hp;unfold maxLen at hG2;have hglt:=h_184;have hvlt:=h_179;have hv1:w1.heap[vb]? = some (.cells xc.toArray 3 (0,0)):=(hgr1.block vb hvlt).trans hv;have hg1:w1.heap[g]? = some (.cells cur.toArray 3 (0,0)):=(hgr1.block g hglt).trans hg;have hmin:=h_152;obtain⟨w2,hrun2,hh2,hgr2,hk2⟩:=nI (P:=Tryz.prog) w1 38 38 3 Tryz.underlying38 1 xN w.heap.size (i) (n+1-i) (G-i) ⟨vb,0,none⟩ 1 1 _ 3 hh1 xc (by rw[hx,hmin]) (fun j v hj=>by rw[bT,Nat.zero_add];exact dV hv1 j v hj) (by rw[List.length_append,hp,hx];omega) h1x w hgr1 (Nat.le_refl _);have hg2:w2.heap[g]? = some (.cells cur.toArray 3 (0,0)):=(hk2 g b_53).trans hg1;have nX:zHy:=()
 exact s_50
theorem aVt (w0:World) (n vb:Nat) (xs xc:List Value) (v:Value) (w:World) (hown:w.ownsRow w0.heap.size 3 1 v n xs) (hG:aA w0 w) (hl:n≤1000000)
  (hv:w.heap[vb]? = some (.cells xc.toArray 3 (0,0))) (hx:xc.length=1) (h1x:∀ v∈xc,v.oneCell'=true) :
  Calls Tryz.prog 187 #[v,.int .i64 n,.slice (some ⟨vb,0,none⟩) 1 1] w (iF 3 1 (xs++xc) (n+1) w0.heap.size v w):=by
 obtain⟨i0,hi,hz0,hz1,hz2⟩:=info_parts lJ;have HO:=uZ hown;have HV:=h_124;have HX:=uZ (show xc.length=1*1 from hx);have H1:=uZ h1x;have hf:=h_77;obtain⟨A,c,rfl,hnc,hc,hA⟩:=hf;unfold maxLen at hc;clear hown hv hx h1x
 cases A with
 | none =>
  obtain⟨rfl,rfl⟩:=hA rfl;clear hA;exact c_46
 | some a =>
  clear hA;by_cases hcn:c=n
  ·subst hcn
   exact c_46
  ·go_enter Tryz.func187,Tryz.ntmps187
   go_wp2_with (at_builtin;refine wpList_append_lies _ rfl _ _ 38 rfl w0.heap.size 3 i0 (.int .i64 0) 1 8 Tryz.underlying38 hi hz0 hz1 hz2 rfl b_53 _ _ _ b_55 HO.out ⟨vb,0,none⟩ 1 1 xc b_55 HX.out (fun j u hj=>by rw[bT];exact HV.out j u hj) H1.out b_53 b_47 b_53 hG.size w.heap.size rfl ?_;intro g3 cap3 w3 hown3 hgr3 hat3 hlt3)
   exact c_102
theorem aVq (w0:World) (l:List Int) (x:Int) (i vb:Nat) (v:Value) (w:World) (hown:w.ownsRow w0.heap.size 3 1 v l.length (l.flatMap eE)) (hG:aA w0 w) (hi:i≤l.length) (hl:l.length≤1000000)
  (hv:w.heap[vb]? = some (.cells (eE x).toArray 3 (0,0))) (hne:some vb≠v.ownBlock) :
  Calls Tryz.prog 187 #[v,.int .i64 i,.slice (some ⟨vb,0,none⟩) 1 1] w (iF 3 1 ((l.take i++[x]++l.drop i).flatMap eE) (l.length+1) w0.heap.size v w):=by
 have hx1:∀ v∈(eE x),v.oneCell'=true:=fun v hv=>fI [x] v (by simpa using hv)
 have hxl:(eE x).length=1:=rfl;obtain⟨ht,hd⟩:=cT (f:=eE) (k:=1) (fun _=>rfl) l i;rw[Nat.mul_one] at ht hd;have hfl:=aL eE 1 (fun _=>rfl) l;by_cases e:i=l.length
 ·subst e
  have:=aVt w0 l.length vb (l.flatMap eE) (eE x) v w hown hG hl hv hxl hx1;simpa [List.flatMap_append] using this
 ·rcases hown.2 with ⟨_,h0⟩|⟨g,cap,cur,rfl,hbg,hh,h1,h2,h3,h4⟩
  ·omega
  have hres:(l.take i++[x]++l.drop i).flatMap eE=(l.flatMap eE).take (i)++(eE x)++(l.flatMap eE).drop (i):=by
   rw[ht,hd];simp[List.flatMap_append]
  have hcur:cur.toList=(l.flatMap eE).take (i)++(l.flatMap eE).drop (i)++cur.toList.drop (l.length*1):=by
   rw[List.take_append_drop,← h4,List.take_append_drop]
  have hh':w.heap[g]? = some (.cells cur.toList.toArray 3 (0,0)):=by simpa using hh
  have hp:((l.flatMap eE).take (i)).length=i:=by rw[List.length_take,hfl];omega
  have hq:((l.flatMap eE).drop i).length=l.length-i:=by rw[List.length_drop,hfl];omega
  have hne':vb≠g:=fun h=>hne (by rw[h];rfl)
  have hq1:∀ v∈(l.flatMap eE).drop (i),v.oneCell'=true:=fun v hv=>fI l v (List.mem_of_mem_drop hv)
  rw[hres];by_cases hroom:l.length+1≤cap
  ·exact aMj w0 g cap l.length i vb _ _ _ _ _ w b_53 hroom h2 hne' hG hbg hh' hcur hp hq (by rw[List.length_drop,Array.length_toList,h3];omega) (by simpa using h3) hv hxl hq1 hx1
  ·exact aRc w0 g cap l.length i vb _ _ _ _ _ w b_53 h1 b_53 hl hG hh' hcur hp hq hv hxl hq1 hx1
theorem c_41 {p:Prop} (h:p:=by
 go_enter Tryz.func133,Tryz.ntmps133;go_wp2_with (at_builtin;refine wpList_append_lies _ rfl _ _ 41 rfl w0.heap.size 66 i0 (.agg #[.int .i64 0,.int .i64 0,.int .i64 0,.string ⟨#[]⟩,.string ⟨#[]⟩,.slice none 0 0]) 6 80 Tryz.underlying41 hi hz0 hz1 hz2 rfl b_53 _ _ _ b_55 HO.out ⟨vb,0,none⟩ 1 1 xc b_55 HX.out (fun j u hj=>by rw[bT];exact HV.out j u hj) H1.out b_53 b_47 b_53 hG.size w.heap.size rfl ?_;intro g3 cap3 w3 hown3 hgr3 hat3 hlt3)
 exact e_19
):p:=h
theorem c_50 {p:Prop} (h:p:=by
 refine iR (by rw[HH.out];exact hG.size) HG3.out b_53 b_47 ?_ (by simp only [List.length_append];omega) ⟨_,hs⟩;rw[length_splice _ _ _ (by rw[length_splice _ _ _ b_40,List.length_append];omega),length_splice _ _ _ b_40,List.length_append,h1.1];exact h1.2.2.2.2
):p:=h
theorem c_51 {p:Prop} (h:p:=by
 refine iR hbg hg2 b_53 b_47 ?_ (by simp only [List.length_append];omega) ⟨_,hs⟩;rw[length_splice _ _ _ b_7,length_splice _ _ _ b_29];exact HCL.out
):p:=h
theorem rD:(Tryz.prog.info? 66).map (fun i=>(i.zero,i.size,i.bytes))=some (some (.agg #[.int .i64 0,.int .i64 0,.int .i64 0,.string ⟨#[]⟩,.string ⟨#[]⟩,.slice none 0 0]),6,80):=by kernel_rfl
theorem cY (l:List BrC) (h:∀ c∈l,c.kv.oneCell'=true):∀ u∈l.flatMap BrC.cells,u.oneCell'=true:=by
 intro u hu;rw[List.mem_flatMap] at hu;obtain⟨x,hx0,hx⟩:=hu;simp[BrC.cells] at hx;rcases hx with rfl|rfl|rfl|rfl|rfl|rfl
 all_goals first|rfl|exact h x hx0
theorem bCj (w:World):(Go.sizeOf 66).run Tryz.prog w=.ok 6 w:=by kernel_rfl
theorem xP:(Tryz.prog.info? 66).map (·.size)=some 6:=by kernel_rfl
theorem aLm (w:World) (g vb o:Nat) (hne:vb≠g) (cur xc:List Value) (hg:w.heap[g]? = some (.cells cur.toArray 66 (0,0))) (hv:w.heap[vb]? = some (.cells xc.toArray 66 (0,0))) (hpos:0<cur.length) (lb cb:Nat) :
  (callFunc 185 #[.slice (some ⟨vb,0,none⟩) 1 1,.slice (some ⟨g,o,none⟩) lb cb]).run Tryz.prog w=.ok (.value (.bool false)) w:=by
 rw[run_callFunc_extern Tryz.func185 (by kernel_rfl) (by kernel_rfl) (by kernel_rfl) (e:=Extern.SlicesOverlaps.overlaps #[41,41] #[4]) (by kernel_rfl),
  Lib.run_overlaps_apart w 41 4 66 Tryz.underlying41 6 bCj ⟨vb,0,none⟩ ⟨g,o,none⟩ 1 1 lb cb hne 66 66 xc.toArray.size cur.toArray.size (by simp[World.shape?,hv]) (by simp[World.shape?,hg]) (by simp only [List.size_toArray];omega) b_43 b_43]
 rfl
def zHi:=Unit
theorem zHi.g {p:Prop} (_:zHi) (h:p:=by
 refine wpStill_nil ?_;refine aIi rfl _ _ 41 41 rfl 66 Tryz.underlying41 6 xP g ((i+1)*6) (n-i) (cap-(i+1)) ⟨g,i*6,none⟩ (n+1-i) (cap-i) b_55 b_55 cur 66 (by have:=HG0.out;exact this) q ?_ ?_ ?_ ?_ w0 (by exact hG.drew) hbg ?_
 ·rw[HPQ.out.2.1]
  exact c_125
 ·intro j v hj
  rw[bT];refine dV HG0.out (i*6+j) v ?_;exact c_78
 ·have h1:=HPQ.out
  rw[HC.out];simp only [List.length_append];omega
 ·exact fun v hv=>H1.out.1 v hv
 intro w1 HG1 HW1 HK1;have hvb1:w1.heap[vb]? = some (.cells xc.toArray 66 (0,0)):=(HK1.out vb hne).trans HV.out
 obtain⟨w2,hrun,hg2,hG2,hk2⟩:=nI (P:=Tryz.prog) w1 41 41 66 Tryz.underlying41 6 xP g (i*6) (n+1-i) (cap-i) ⟨vb,0,none⟩ 1 1 _ 66 HG1.out xc (by
   rw[HPQ.out.2.2.2];have:Nat.min 1 (n+1-i)=1:=by simp only [Nat.min_def];split<;>omega
   rw[this]) (fun j v hj=>by rw[bT,Nat.zero_add];exact dV hvb1 j v hj) (by
   have h1:=HPQ.out;rw[length_splice _ _ _ b_29,HC.out];simp only [List.length_append]
   omega) H1.out.2 w0 HW1.out hbg
 have HFin:RowKit.Hid (w2.ownsRow w0.heap.size 66 6 (.slice (some ⟨g,0,none⟩) (n+1) cap) (n+1) (p++xc++q)):=by
  have h1:=HPQ.out;have hs:=lP p q r xc b_53;rw[h1.1,h1.2.2.2,← HC.out,show i*6+6=(i+1)*6 by omega] at hs;exact c_51
 exact c_90
):p:=h
theorem aMl (w0:World) (g cap n i vb:Nat) (cur p q r xc:List Value) (w:World) (hi:i<n) (hroom:n+1≤cap) (hc:cap≤maxLen) (hne:vb≠g) (hG:aA w0 w) (hbg:w0.heap.size≤g)
  (hg:w.heap[g]? = some (.cells cur.toArray 66 (0,0))) (hcur:cur=p++q++r) (hp:p.length=i*6) (hq:q.length=(n-i)*6) (hr:6≤r.length) (hcl:cur.length=cap*6)
  (hv:w.heap[vb]? = some (.cells xc.toArray 66 (0,0))) (hx:xc.length=6) (h1c:∀ v∈q,v.oneCell'=true) (h1x:∀ v∈xc,v.oneCell'=true) :
  Calls Tryz.prog 133 #[.slice (some ⟨g,0,none⟩) n cap,.int .i64 i,.slice (some ⟨vb,0,none⟩) 1 1] w (iF 66 6 (p++xc++q) (n+1) w0.heap.size (.slice (some ⟨g,0,none⟩) n cap) w):=by
 have hlen:cur.length=i*6+(n-i)*6+r.length:=by rw[hcur];simp only [List.length_append,hp,hq]
 unfold maxLen at hc;have hov:=fun lb cb=>aLm w g vb ((i+1)*6) hne cur xc hg hv b_53 lb cb
 have hz1:=h_209;have hb2:¬ (cap=i+1):=by omega
 have hb3:=h_210;have hb4:=h_224;have hin:i≤n:=by omega
 have HG0:=uZ hg;have HV:=uZ hv;have HC:=uZ hcur;have HPQ:=uZ (show p.length=i*6∧q.length=(n-i)*6∧6≤r.length∧xc.length=6 from⟨hp,hq,hr,hx⟩);have H1:=h_134;have HCL:=uZ hcl;clear hg hv hcur hp hq hr hx h1c h1x hlen hcl;go_enter Tryz.func133,Tryz.ntmps133;have nX:zHi:=()
 exact s_47
theorem aXm (w:World) (g cap n i:Nat) (cur p q:List Value) (hi:i<n) (hnc:n≤cap) (hroom:cap<n+1) (hn:n≤1000000) (hg:w.heap[g]? = some (.cells cur.toArray 66 (0,0))) (hcur:∃ r,cur=p++q++r) (hp:p.length=i*6) :
  ∃(G:Nat) (Z:List Value) (w1:World),(∀ ty,(Builtin.append_ #[41,3] ty #[.slice (some ⟨g,0,none⟩) i cap,.int .i64 ((n:Int)+1-(i:Int))]).run Tryz.prog w=.ok (.slice (some ⟨w.heap.size,0,none⟩) (n+1) G) w1) ∧
   n+1≤G∧G≤maxLen∧w1.heap[w.heap.size]? = some (.cells (p++Z).toArray 66 (0,0))∧(n+1-i)*6≤Z.length∧i*6+Z.length=G*6∧aA w w1:=by
 obtain⟨i0,hi0,hz0,hz1,hz2⟩:=info_parts rD;obtain⟨r,hcur⟩:=hcur;have hkk:=h_163;have hik:i+(n+1-i)=n+1:=by omega
 have hold:(Builtin.firstCells i0.size i (.slice (some ⟨g,0,none⟩) i cap)).run Tryz.prog w.drew=.ok p.toArray w.drew:=by
  rw[hz1];refine run_firstCells_some w.drew 6 i ⟨g,0,none⟩ i cap p hp (fun j v hj=>?_);rw[bT,Nat.zero_add];refine dV (w:=w.drew) hg j v ?_;rw[hcur,List.append_assoc,List.getElem?_append_left (List.getElem?_eq_some_iff.1 hj).1];exact hj
 have h:=fun ty=>Lib.run_append_grow_zeros w 41 3 ty 66 i0 _ .i64 .i64 Tryz.underlying41 Tryz.underlying3 hi0 hz0 (some ⟨g,0,none⟩) i cap p hold (n+1-i) b_53 b_53 b_53 b_53 (by rw[hz2];omega) (by rw[hz2,hik];exact growslice_fits hroom b_53)
 simp only [hik] at h;rw[hkk];obtain⟨ZC,hZC⟩:∃ ZC,ZC=(Value.agg #[.int .i64 0,.int .i64 0,.int .i64 0,.string ⟨#[]⟩,.string ⟨#[]⟩,.slice none 0 0]).cells:=⟨_,rfl⟩
 have hZs:ZC.size=6:=by rw[hZC];rfl
 rw[← hZC] at h;refine⟨_,(Builtin.zeroCells ZC (n+1-i)++Builtin.zeroCells ZC (grownCap w (n+1) cap 66-(n+1))).toList,_,h,grownCap_ge w _ _ _,grownCap_le_maxLen w (n+1) cap _ b_47,?_,?_,?_,(uX w).drew.alloc _⟩
 ·have:=heap_alloc_last w.drew (.cells (p.toArray++Builtin.zeroCells ZC (n+1-i)++Builtin.zeroCells ZC (grownCap w (n+1) cap 66-(n+1))) 66 (0,0))
  rw[show(p++(Builtin.zeroCells ZC (n+1-i)++Builtin.zeroCells ZC (grownCap w (n+1) cap 66-(n+1))).toList).toArray=p.toArray++Builtin.zeroCells ZC (n+1-i)++Builtin.zeroCells ZC (grownCap w (n+1) cap 66-(n+1)) by simp[Array.append_assoc]];exact this
 ·simp[Builtin.zeroCells,hZs]
 ·have h9:=grownCap_ge w (n+1) cap 66
  simp only [Builtin.zeroCells,hZs,Array.toList_append,List.length_append,Array.length_toList,Array.size_map,Array.size_range];rw[← Nat.add_assoc,← Nat.add_mul,← Nat.add_mul];generalize grownCap w (n+1) cap 66=X at h9 ⊢;rw[show i+(n+1-i)+(X-(n+1))=X by omega]
def zFy:=Unit
theorem zFy.g {p:Prop} (_:zFy) (h:p:=by
 refine wpStill_nil ?_;refine aIi rfl _ _ 41 41 rfl 66 Tryz.underlying41 6 xP H ((i+1)*6) (n-i) (G-(i+1)) ⟨g,i*6,none⟩ (n-i) (cap-i) b_55 b_55 _ 66 (by have:=HR2.out.1;exact this) q ?_ ?_ ?_ ?_ w (by exact HR2.out.2.2.drew) (by rw[HH.out];exact Nat.le_refl _) ?_
 ·rw[HPQ.out.2.1]
  exact c_125
 ·intro j v hj
  rw[bT];refine dV (w:=w2.drew) HR2.out.2.1 (i*6+j) v ?_;exact c_78
 ·have h1:=HPQ.out
  exact c_111
 ·exact fun v hv=>H1.out.1 v hv
 intro w3 HG3 HW3 HK3
 have HFin:RowKit.Hid (w3.ownsRow w0.heap.size 66 6 (.slice (some ⟨H,0,none⟩) (n+1) G) (n+1) (p++xc++q)):=by
  have h1:=HPQ.out;have hs:=pV p q Z xc;rw[h1.1,h1.2.2.1,show i*6+6=(i+1)*6 by omega] at hs;exact c_50
 exact c_100
):p:=h
def zHz:=Unit
theorem zHz.g {p:Prop} (_:zHz) (h:p:=by
 have HPQ:=uZ (show p.length=i*6∧q.length=(n-i)*6∧xc.length=6∧(n+1-i)*6≤Z.length∧i*6+Z.length=G*6 from⟨hp,hq,hx,hZ,hZl⟩);have H1:=h_134;clear hg hv hcur hp hq hx h1c h1x hh1 hZ hZl hgr1 hv1 hg1 hmin hh2 hgr2 hk2 hg2 hglt hvlt;obtain⟨H,hH⟩:∃ H,H=w.heap.size:=⟨_,rfl⟩
 rw[← hH] at HR2 hrun1 hrun2;have HH:=uZ hH;clear hH;go_enter Tryz.func133,Tryz.ntmps133;have nX:zFy:=()
 exact s_28
):p:=h
theorem aRe (w0:World) (g cap n i vb:Nat) (cur p q r xc:List Value) (w:World) (hi:i<n) (hnc:n≤cap) (hroom:cap<n+1) (hn:n≤1000000) (hG:aA w0 w)
  (hg:w.heap[g]? = some (.cells cur.toArray 66 (0,0))) (hcur:cur=p++q++r) (hp:p.length=i*6) (hq:q.length=(n-i)*6)
  (hv:w.heap[vb]? = some (.cells xc.toArray 66 (0,0))) (hx:xc.length=6) (h1c:∀ v∈q,v.oneCell'=true) (h1x:∀ v∈xc,v.oneCell'=true) :
  Calls Tryz.prog 133 #[.slice (some ⟨g,0,none⟩) n cap,.int .i64 i,.slice (some ⟨vb,0,none⟩) 1 1] w (iF 66 6 (p++xc++q) (n+1) w0.heap.size (.slice (some ⟨g,0,none⟩) n cap) w):=by
 obtain⟨G,Z,w1,hrun1,hG1,hG2,hh1,hZ,hZl,hgr1⟩:=aXm w g cap n i cur p q hi hnc hroom hn hg ⟨r,hcur⟩ hp;unfold maxLen at hG2;have hglt:=h_184;have hvlt:=h_179;have hv1:w1.heap[vb]? = some (.cells xc.toArray 66 (0,0)):=(hgr1.block vb hvlt).trans hv;have hg1:w1.heap[g]? = some (.cells cur.toArray 66 (0,0)):=(hgr1.block g hglt).trans hg;have hmin:=h_152;obtain⟨w2,hrun2,hh2,hgr2,hk2⟩:=nI (P:=Tryz.prog) w1 41 41 66 Tryz.underlying41 6 xP w.heap.size (i*6) (n+1-i) (G-i) ⟨vb,0,none⟩ 1 1 _ 66 hh1 xc (by rw[hx,hmin]) (fun j v hj=>by rw[bT,Nat.zero_add];exact dV hv1 j v hj) (by rw[List.length_append,hp,hx];omega) h1x w hgr1 (Nat.le_refl _);have hg2:w2.heap[g]? = some (.cells cur.toArray 66 (0,0)):=(hk2 g b_53).trans hg1;have nX:zHz:=()
 exact s_50
theorem aVv (w0:World) (n vb:Nat) (xs xc:List Value) (v:Value) (w:World) (hown:w.ownsRow w0.heap.size 66 6 v n xs) (hG:aA w0 w) (hl:n≤1000000)
  (hv:w.heap[vb]? = some (.cells xc.toArray 66 (0,0))) (hx:xc.length=6) (h1x:∀ v∈xc,v.oneCell'=true) :
  Calls Tryz.prog 133 #[v,.int .i64 n,.slice (some ⟨vb,0,none⟩) 1 1] w (iF 66 6 (xs++xc) (n+1) w0.heap.size v w):=by
 obtain⟨i0,hi,hz0,hz1,hz2⟩:=info_parts rD;have HO:=uZ hown;have HV:=h_124;have HX:=uZ (show xc.length=1*6 from hx);have H1:=uZ h1x;have hf:=h_77;obtain⟨A,c,rfl,hnc,hc,hA⟩:=hf;unfold maxLen at hc;clear hown hv hx h1x
 cases A with
 | none =>
  obtain⟨rfl,rfl⟩:=hA rfl;clear hA;exact c_41
 | some a =>
  clear hA;by_cases hcn:c=n
  ·subst hcn
   exact c_41
  ·go_enter Tryz.func133,Tryz.ntmps133
   go_wp2_with (at_builtin;refine wpList_append_lies _ rfl _ _ 41 rfl w0.heap.size 66 i0 (.agg #[.int .i64 0,.int .i64 0,.int .i64 0,.string ⟨#[]⟩,.string ⟨#[]⟩,.slice none 0 0]) 6 80 Tryz.underlying41 hi hz0 hz1 hz2 rfl b_53 _ _ _ b_55 HO.out ⟨vb,0,none⟩ 1 1 xc b_55 HX.out (fun j u hj=>by rw[bT];exact HV.out j u hj) H1.out b_53 b_47 b_53 hG.size w.heap.size rfl ?_;intro g3 cap3 w3 hown3 hgr3 hat3 hlt3)
   exact c_102
theorem aVs (w0:World) (l:List BrC) (x:BrC) (i vb:Nat) (v:Value) (w:World) (hown:w.ownsRow w0.heap.size 66 6 v l.length (l.flatMap BrC.cells)) (hG:aA w0 w) (hone:∀ c∈l,c.kv.oneCell'=true) (honx:x.kv.oneCell'=true) (hi:i≤l.length) (hl:l.length≤1000000)
  (hv:w.heap[vb]? = some (.cells x.cells.toArray 66 (0,0))) (hne:some vb≠v.ownBlock) :
  Calls Tryz.prog 133 #[v,.int .i64 i,.slice (some ⟨vb,0,none⟩) 1 1] w (iF 66 6 ((l.take i++[x]++l.drop i).flatMap BrC.cells) (l.length+1) w0.heap.size v w):=by
 have hx1:∀ v∈x.cells,v.oneCell'=true:=fun v hv=>cY [x] (by simpa using honx) v (by simpa using hv)
 have hxl:x.cells.length=6:=rfl;obtain⟨ht,hd⟩:=cT (f:=BrC.cells) (k:=6) (fun _=>rfl) l i;have hfl:=aL BrC.cells 6 (fun _=>rfl) l;by_cases e:i=l.length
 ·subst e
  have:=aVv w0 l.length vb (l.flatMap BrC.cells) x.cells v w hown hG hl hv hxl hx1;simpa [List.flatMap_append] using this
 ·rcases hown.2 with ⟨_,h0⟩|⟨g,cap,cur,rfl,hbg,hh,h1,h2,h3,h4⟩
  ·omega
  have hres:(l.take i++[x]++l.drop i).flatMap BrC.cells=(l.flatMap BrC.cells).take (i*6)++x.cells++(l.flatMap BrC.cells).drop (i*6):=by
   rw[ht,hd];simp[List.flatMap_append]
  have hcur:cur.toList=(l.flatMap BrC.cells).take (i*6)++(l.flatMap BrC.cells).drop (i*6)++cur.toList.drop (l.length*6):=by
   rw[List.take_append_drop,← h4,List.take_append_drop]
  have hh':w.heap[g]? = some (.cells cur.toList.toArray 66 (0,0)):=by simpa using hh
  have hp:((l.flatMap BrC.cells).take (i*6)).length=i*6:=by rw[List.length_take,hfl];omega
  have hq:((l.flatMap BrC.cells).drop (i*6)).length=(l.length-i)*6:=by rw[List.length_drop,hfl];omega
  have hne':vb≠g:=fun h=>hne (by rw[h];rfl)
  have hq1:∀ v∈(l.flatMap BrC.cells).drop (i*6),v.oneCell'=true:=fun v hv=>cY l hone v (List.mem_of_mem_drop hv)
  rw[hres];by_cases hroom:l.length+1≤cap
  ·exact aMl w0 g cap l.length i vb _ _ _ _ _ w b_53 hroom h2 hne' hG hbg hh' hcur hp hq (by rw[List.length_drop,Array.length_toList,h3];omega) (by simpa using h3) hv hxl hq1 hx1
  ·exact aRe w0 g cap l.length i vb _ _ _ _ _ w b_53 h1 b_53 hl hG hh' hcur hp hq hv hxl hq1 hx1
def Asc (l:List Int):Prop:=l.Pairwise (· < ·)
theorem aDy:∀ {l m:List Int},Asc l→Asc m→(∀ x,x∈l↔x∈m)→l=m
 | [],[],_,_,_=>rfl
 | [],y::m,_,_,h=>by have:=(h y).2 b_54;simp at this
 | x::l,[],_,_,h=>by have:=(h x).1 b_54;simp at this
 | x::l,y::m,hl,hm,h=>by
  have hl':=List.pairwise_cons.1 hl;have hm':=List.pairwise_cons.1 hm
  have hxy:x=y:=by
   have h1:=(h x).1 b_54;have h2:=(h y).2 b_54;rcases List.mem_cons.1 h1 with e|h1
   ·exact e
   ·rcases List.mem_cons.1 h2 with e|h2
    ·exact e.symm
    ·have a:=hm'.1 x h1
     have b:=hl'.1 y h2;omega
  subst hxy;rw[aDy hl'.2 hm'.2 (fun z=>?_)];constructor
  ·intro hz
   have h1:=(h z).1 (by simp[hz]);rcases List.mem_cons.1 h1 with e|h1
   ·subst e
    have:=hl'.1 z hz;omega
   ·exact h1
  ·intro hz
   have h1:=(h z).2 (by simp[hz]);rcases List.mem_cons.1 h1 with e|h1
   ·subst e
    have:=hm'.1 z hz;omega
   ·exact h1
theorem xG (n x:Int):∀ l:List Int,x∈aOt n l↔x=n∨x∈l
 | []=>by simp[aOt]
 | y::r=>by
  unfold aOt;split
  ·rw[List.mem_cons,xG n x r,List.mem_cons]
   constructor
   ·rintro (h|h|h)
    ·exact .inr (.inl h)
    ·exact .inl h
    ·exact .inr (.inr h)
   ·rintro (h|h|h)
    ·exact .inr (.inl h)
    ·exact .inl h
    ·exact .inr (.inr h)
  ·split
   ·rename_i h
    subst h;simp
   ·simp
theorem aGe (n:Int):∀ l:List Int,Asc l→Asc (aOt n l)
 | [],_=>by simp[aOt,Asc]
 | y::r,h=>by
  have h':=List.pairwise_cons.1 h;unfold aOt;split
  ·rename_i hy
   refine List.pairwise_cons.2 ⟨fun z hz=>?_,aGe n r h'.2⟩;rcases (xG n z r).1 hz with e|hz
   ·omega
   ·exact h'.1 z hz
  ·split
   ·exact h
   ·refine List.pairwise_cons.2 ⟨fun z hz=>?_,h⟩
    rcases List.mem_cons.1 hz with e|hz
    ·omega
    ·have:=h'.1 z hz
     omega
theorem sJ (l:List Int) (h:l.Nodup):Asc (sortI l):=by
 have h1:(sortI l).Pairwise fun a b=>decide (a≤b)=true:=List.pairwise_mergeSort (fun a b c=>by simp;omega) (fun a b=>by simp;omega) l
 have h2:(sortI l).Nodup:=(List.mergeSort_perm l _).nodup_iff.2 h;refine List.Pairwise.imp₂ (R:=fun a b=>decide (a≤b)=true) (S:=(· ≠ ·)) (fun a b k1 k2=>?_) h1 h2;simp at k1;omega
theorem lZ (l:List Int) (x:Int):x∈sortI l↔x∈l:=(List.mergeSort_perm l _).mem_iff
def fP (l:List Br):Nat→Br→List Int
 | 0,b=>[b.id]
 | n+1,b=>if b.parent=0 then[b.id] else match aE l b.parent with
  | none=>[b.id]
  | some p=>b.id::fP l n p
def bCn (l:List Br) (b:Br):List Int:=(fP l l.length b).reverse
theorem jE (l:List Br) (n:Nat) (b:Br) (h:b.parent=0):fP l n b=[b.id]:=by cases n<;>simp[fP,h]
theorem mQ (l:List Br) (n:Nat) (b p:Br) (h:b.parent≠0) (hp:aE l b.parent=some p):fP l (n+1) b=b.id::fP l n p:=by simp[fP,h,hp]
theorem h_39 {p:Prop} (h:p:=by
 exact(show ks.Nodup from by
  have h1:(sortI ks).Nodup:=by
   rw[he];exact List.Pairwise.imp (fun h=>by omega) (nB h p)
  exact(List.mergeSort_perm ks _).nodup_iff.1 h1)
):p:=h
def aGl (l:List Br) (ks:List Int) (p:Int):Prop:=(∀ i (h:i<ks.length),(∃ b,aE l ks[i]=some b∧b.parent=p)∧∀ j (hj:j<ks.length),j<i→ks[j]≠ks[i])∧(bH l p).length=ks.length
theorem oL:∀ {a b:List Int},Asc a→Asc b→(∀ x∈a,x∈b)→a.length≤b.length
 | [],_,_,_,_=>Nat.zero_le _
 | x::a,[],_,_,h=>by have:=h x b_54;cases this
 | x::a,y::b,ha,hb,h=>by
  have ha':=List.pairwise_cons.1 ha;have hb':=List.pairwise_cons.1 hb
  have hxy:y≤x:=by
   rcases List.mem_cons.1 (h x b_54) with e|hx
   ·omega
   ·have:=hb'.1 x hx;omega
  have:=oL (a:=a) (b:=b) ha'.2 hb'.2 (fun z hz=>by
   have h1:=ha'.1 z hz;rcases List.mem_cons.1 (h z (List.mem_cons_of_mem _ hz)) with e|hz2
   ·omega
   ·exact hz2)
  simp only [List.length_cons];omega
theorem aIp {a b:List Int} (ha:Asc a) (hb:Asc b) (h:∀ x∈a,x∈b) (hl:b.length≤a.length):a=b:=by
 refine aDy ha hb (fun x=>⟨h x,fun hx=>?_⟩);by_cases hxa:x∈a
 ·exact hxa
 ·exfalso
  have h1:=oL (a:=aOt x a) (aGe x a ha) hb (fun z hz=>by
   rcases (xG x z a).1 hz with rfl|hz
   ·exact hx
   ·exact h z hz)
  have h2:∀(m:List Int),x∉m→(aOt x m).length=m.length+1:=by
   intro m
   induction m with
   | nil=>intro _;rfl
   | cons y r ih =>
    intro hm;rw[List.mem_cons,not_or] at hm;unfold aOt;split
    ·simp only [List.length_cons];rw[ih hm.2]
    ·rw[if_neg (fun e=>hm.1 e.symm)];rfl
  rw[h2 a hxa] at h1;omega
def bP (l:List Br):Prop:=l.Pairwise fun a b=>a.id<b.id
theorem dN {l:List Br} (h:bP l) {b:Br} (hb:b∈l):aE l b.id=some b:=by
 obtain⟨k,hk,rfl⟩:=List.mem_iff_getElem.1 hb;unfold aE;refine List.find?_eq_some_iff_getElem.2 ⟨by simp,k,hk,rfl,fun j hj=>?_⟩;have:=List.pairwise_iff_getElem.1 h j k b_53 hk hj;simp;omega
theorem bE {l:List Br} {n:Int} {b:Br} (h:aE l n=some b):b∈l∧b.id=n:=by
 unfold aE at h;exact⟨List.mem_of_find?_eq_some h,by simpa using List.find?_some h⟩
theorem nB {l:List Br} (h:bP l) (p:Int):Asc (bH l p):=by
 unfold bH Asc;exact List.Pairwise.map _ (fun _ _ h=>h) (List.Pairwise.filter _ h)
theorem mX (l:List Br) (p n:Int):n∈bH l p↔∃ b∈l,b.parent=p∧b.id=n:=by
 unfold bH;simp only [List.mem_map,List.mem_filter,beq_iff_eq];exact⟨fun⟨b,⟨h1,h2⟩,h3⟩=>⟨b,h1,h2,h3⟩,fun⟨b,h1,h2,h3⟩=>⟨b,⟨h1,h2⟩,h3⟩⟩
theorem aMe {l:List Br} (h:bP l) (ks:List Int) (p:Int):aGl l ks p↔sortI ks=bH l p:=by
 have hnd:(∀ i (h:i<ks.length),∀ j (hj:j<ks.length),j<i→ks[j]≠ks[i])↔ks.Nodup:=by
  unfold List.Nodup;rw[List.pairwise_iff_getElem];exact⟨fun h i j hi hj hij=>h j hj i hi hij,fun h i hi j hj hij=>h j i hj hi hij⟩
 have hlen:(sortI ks).length=ks.length:=by unfold sortI;exact List.length_mergeSort ks
 constructor
 ·rintro ⟨h1,h2⟩
  have hn:=hnd.1 (fun i hi=>(h1 i hi).2);refine aIp (sJ ks hn) (nB h p) (fun x hx=>?_) b_53;rw[lZ] at hx;obtain⟨i,hi,rfl⟩:=List.mem_iff_getElem.1 hx;obtain⟨b,hb,hp⟩:=(h1 i hi).1;have:=bE hb;exact(mX l p _).2 ⟨b,this.1,hp,this.2⟩
 ·intro he
  have hn:=h_39;refine⟨fun i hi=>⟨?_,hnd.2 hn i hi⟩,by rw[← he,hlen]⟩;have hm:ks[i]∈bH l p:=by rw[← he,lZ];exact List.getElem_mem hi
  obtain⟨b,hb,hp,hid⟩:=(mX l p _).1 hm;exact⟨b,by rw[← hid];exact dN h hb,hp⟩
theorem eB {l:List Br}:∀(n:Nat) (b:Br) (d:Nat),dJ l n b=some d→d≤n+1∧∀ m,d≤m+1→dJ l m b=some d
 | 0,b,d,h=>by
  unfold dJ at h;by_cases hp:b.parent=0
  ·rw[if_pos hp] at h
   cases h;refine⟨by omega,fun m _=>?_⟩;cases m<;>simp[dJ,hp]
  ·rw[if_neg hp] at h;cases h
 | n+1,b,d,h=>by
  unfold dJ at h;by_cases hp:b.parent=0
  ·rw[if_pos hp] at h
   cases h;refine⟨by omega,fun m _=>?_⟩;cases m<;>simp[dJ,hp]
  ·rw[if_neg hp] at h
   cases hf:aE l b.parent with
   | none=>rw[hf] at h;cases h
   | some p =>
    rw[hf] at h;simp only [Option.map_eq_some_iff] at h;obtain⟨e,he,rfl⟩:=h;obtain⟨h1,h2⟩:=eB n p e he;refine⟨by omega,fun m hm=>?_⟩
    obtain⟨m',rfl⟩:∃ m',m=m'+1:=by
     cases m with
     | zero =>
      exfalso
      have:1≤e:=by
       cases n with
       | zero=>unfold dJ at he;split at he<;>simp at he;omega
       | succ n => unfold dJ at he; split at he
                   · simp at he; omega
                   · cases hf2 : aE l p.parent with
                     | none => rw [hf2] at he; cases he
                     | some q => rw [hf2] at he; simp only [Option.map_eq_some_iff] at he; obtain ⟨_, _, rfl⟩ := he; omega
      omega
     | succ m'=>exact⟨m',rfl⟩
    unfold dJ;rw[if_neg hp,hf];show(dJ l m' p).map (· + 1)=_;rw[h2 m' b_53];rfl
def upW (l:List Br):Nat→Br→Option (List Int)
 | 0,_=>none
 | n+1,b=>if b.parent=0 then some [b.id] else match aE l b.parent with
  | none=>some [b.id]
  | some p=>(upW l n p).map (b.id :: ·)
def wR (l:List Br) (b:Br):List Int:=match upW l l.length b with
 | none=>[]
 | some ids=>ids.reverse
def aUc (l:List Br):Prop:=∀ b∈l,b.parent=0∨∃ p,aE l b.parent=some p
theorem aEo {l:List Br} (hu:aUc l):∀(n:Nat) (b:Br),b∈l→upW l (n+1) b=(dJ l n b).map fun _=>fP l n b
 | 0,b,hb=>by
  unfold upW dJ;by_cases hp:b.parent=0
  ·simp[hp,fP]
  ·rw[if_neg hp,if_neg hp]
   rcases hu b hb with h|⟨p,h⟩
   ·exact absurd h hp
   ·rw[h]
    simp[upW]
 | n+1,b,hb=>by
  unfold upW dJ;by_cases hp:b.parent=0
  ·simp[hp,fP]
  ·rw[if_neg hp,if_neg hp]
   rcases hu b hb with h|⟨p,h⟩
   ·exact absurd h hp
   ·rw[h]
    show(upW l (n+1) p).map (b.id :: ·)=((dJ l n p).map (· + 1)).map fun _=>fP l (n+1) b
    rw[aEo hu n p (bE h).1,mQ l n b p hp h];cases dJ l n p<;>rfl
theorem gG {l:List Br}:∀(n:Nat) (b:Br) (d:Nat),dJ l n b=some d→(fP l n b).length=d
 | 0,b,d,h=>by
  unfold dJ at h;by_cases hp:b.parent=0
  ·rw[if_pos hp] at h;cases h;simp[fP]
  ·rw[if_neg hp] at h;cases h
 | n+1,b,d,h=>by
  unfold dJ at h;by_cases hp:b.parent=0
  ·rw[if_pos hp] at h;cases h;simp[fP,hp]
  ·rw[if_neg hp] at h
   cases hf:aE l b.parent with
   | none=>rw[hf] at h;cases h
   | some p =>
    rw[hf] at h;simp only [Option.map_eq_some_iff] at h;obtain⟨e,he,rfl⟩:=h;rw[mQ l n b p hp hf,List.length_cons,gG n p e he]
theorem aEn {l:List Br} (hi:bP l):∀(n:Nat) (b:Br) (d:Nat),b∈l→dJ l n b=some d→(fP l n b).Nodup∧∀ x∈fP l n b,∃ c∈l,c.id=x∧∃ e,e≤d∧dJ l n c=some e
 | 0,b,d,hb,h=>by
  refine⟨by simp[fP],fun x hx=>?_⟩;simp only [fP,List.mem_singleton] at hx;exact⟨b,hb,hx.symm,d,Nat.le_refl _,h⟩
 | n+1,b,d,hb,h=>by
  have h0:=h;unfold dJ at h;by_cases hp:b.parent=0
  ·rw[jE l _ b hp]
   refine⟨by simp,fun x hx=>?_⟩;rw[List.mem_singleton] at hx;exact⟨b,hb,hx.symm,d,Nat.le_refl _,h0⟩
  ·rw[if_neg hp] at h
   cases hf:aE l b.parent with
   | none=>rw[hf] at h;cases h
   | some p =>
    rw[hf] at h;simp only [Option.map_eq_some_iff] at h;obtain⟨e,he,rfl⟩:=h;obtain⟨h1,h2⟩:=aEn hi n p e (bE hf).1 he;rw[mQ l n b p hp hf];refine⟨List.nodup_cons.2 ⟨fun hx=>?_,h1⟩,fun x hx=>?_⟩
    ·obtain⟨c,hc,hci,e',hle,hd⟩:=h2 _ hx
     have hcb:c=b:=by
      have a1:=dN hi hc;have a2:=dN hi hb;rw[hci,a2] at a1;exact(Option.some.inj a1).symm
     subst hcb;have h3:=(eB n c e' hd).2 (n+1) (by have:=(eB n c e' hd).1;omega);rw[h3] at h0;have:=Option.some.inj h0;omega
    ·rcases List.mem_cons.1 hx with rfl|hx
     ·exact⟨b,hb,rfl,e+1,Nat.le_refl _,h0⟩
     ·obtain⟨c,hc,hci,e',hle,hd⟩:=h2 _ hx
      have h3:=(eB n c e' hd).2 (n+1) (by have:=(eB n c e' hd).1;omega);exact⟨c,hc,hci,e',by omega,h3⟩
theorem lA {l:List Br} (hi:bP l) {n:Nat} {b:Br} {d:Nat} (hb:b∈l) (h:dJ l n b=some d):d≤l.length:=by
 obtain⟨h1,h2⟩:=aEn hi n b d hb h;have hl:=gG n b d h;have hm:(sortI (fP l n b)).length=(fP l n b).length:=by unfold sortI;exact List.length_mergeSort _
 have hs:=oL (a:=sortI (fP l n b)) (b:=l.map Br.id) (sJ _ h1) (List.Pairwise.map _ (fun _ _ h=>h) hi) (fun x hx=>by
  rw[lZ] at hx;obtain⟨c,hc,hci,_⟩:=h2 x hx
  exact List.mem_map.2 ⟨c,hc,hci⟩)
 rw[List.length_map] at hs;omega
theorem aLd {l:List Br} (hi:bP l) (hu:aUc l) {b:Br} (hb:b∈l):(eD l b↔(wR l b).length≠0∧(wR l b).length≤12)∧(eD l b→wR l b=bCn l b):=by
 have hL:0<l.length:=List.length_pos_of_mem hb;obtain⟨L,hLe⟩:∃ L,l.length=L+1:=⟨l.length-1,by omega⟩
 have hW:wR l b=match (dJ l L b).map fun _=>fP l L b with
   | none=>[]
   | some ids=>ids.reverse:=by
  unfold wR;rw[hLe,aEo hu L b hb]
 have hdd:∀ d,dJ l l.length b=some d→dJ l L b=some d:=fun d h=>(eB _ b d h).2 L (by have:=lA hi hb h;omega)
 have hup:∀ d,dJ l L b=some d→dJ l l.length b=some d:=fun d h=>(eB _ b d h).2 _ (by have:=(eB _ b d h).1;omega)
 have hne:∀(n d:Nat),dJ l n b=some d→d≠0:=fun n d h e=>by
  have h1:=gG n b d h;cases n<;>unfold fP at h1
  ·simp at h1;omega
  ·split at h1
   ·simp at h1;omega
   ·split at h1<;>simp at h1<;>omega
 constructor
 ·unfold eD
  rw[hW];constructor
  ·rintro ⟨d,hd,h12⟩
   have h1:=hdd d hd;rw[h1];have h2:=gG L b d h1;have h3:=hne _ _ h1;simp only [Option.map_some,List.length_reverse,h2];exact⟨h3,h12⟩
  ·rintro ⟨h0,h12⟩
   cases hd:dJ l L b with
   | none=>rw[hd] at h0;simp at h0
   | some d =>
    rw[hd] at h12;simp only [Option.map_some,List.length_reverse,gG L b d hd] at h12;exact⟨d,hup d hd,h12⟩
 ·rintro ⟨d,hd,-⟩
  have h1:=hdd d hd;rw[hW,h1];show(fP l L b).reverse=(fP l l.length b).reverse
  congr 1
  have key:∀(n m:Nat) (c:Br) (e:Nat),dJ l n c=some e→e≤m+1→fP l n c=fP l m c:=by
   intro n
   induction n with
   | zero =>
    intro m c e he _;unfold dJ at he;by_cases hp:c.parent=0
    ·rw[jE l 0 c hp,jE l m c hp]
    ·rw[if_neg hp] at he;cases he
   | succ n ih =>
    intro m c e he hm;by_cases hp:c.parent=0
    ·rw[jE l _ c hp,jE l m c hp]
    ·unfold dJ at he
     rw[if_neg hp] at he
     cases hf:aE l c.parent with
     | none=>rw[hf] at he;cases he
     | some p =>
      rw[hf] at he;simp only [Option.map_eq_some_iff] at he;obtain⟨e',he',rfl⟩:=he
      have hpos:e'≠0:=fun h=>by
       have h1:=gG n p e' he';cases n<;>unfold fP at h1
       ·simp at h1;omega
       ·split at h1
        ·simp at h1;omega
        ·split at h1<;>simp at h1<;>omega
      obtain⟨m',rfl⟩:∃ m',m=m'+1:=⟨m-1,by omega⟩
      rw[mQ l n c p hp hf,mQ l m' c p hp hf,ih m' p e' he' b_53]
  exact key L l.length b d h1 (by have:=(eB _ b d h1).1;omega)
def nU (b:Br):Prop:=aN b.id 1 1073741824=true∧aN b.level 1 4=true∧fB b.title.data.toList=true∧(b.mark.toList.isEmpty=false→jP b.mark.data.toList=true)
def fK (l:List Br) (ks:List Int) (p:Int):Prop:=ks.Nodup∧∀ x,x∈ks↔∃ b∈l,b.parent=p∧b.id=x
structure bG (t:Tr):Prop where
 len:t.brs.length≤256
 asc:bP t.brs
 units:∀ b∈t.brs,nU b
 marks:∀ b∈t.brs,∀ c∈t.brs,b.mark.toList.isEmpty=false→b.mark.toList=c.mark.toList→b.id=c.id
 placed:∀ b∈t.brs,aX t.brs b
 kids:∀ b∈t.brs,fK t.brs b.kids b.id
 roots:fK t.brs t.roots 0
 rank:∃ r:Int→Nat,∀ b∈t.brs,b.parent≠0→r b.parent<r b.id
theorem kX {l:List Br} (h:bP l) (ks:List Int) (p:Int):fK l ks p↔sortI ks=bH l p:=by
 constructor
 ·rintro ⟨h1,h2⟩
  refine aDy (sJ ks h1) (nB h p) (fun x=>?_);rw[lZ,h2,mX]
 ·intro he
  have hn:=h_39;exact⟨hn,fun x=>by rw[← lZ,he,mX]⟩
theorem lD {l:List Br} (h:bP l) {b c:Br} (hb:b∈l) (hc:c∈l) (e:b.id=c.id):b=c:=by
 have h1:=dN h hb;have h2:=dN h hc;rw[e,h2] at h1;exact(Option.some.inj h1).symm
theorem aAp {l:List Br} (hu:aUc l) (r:Int→Nat) (hr:∀ b∈l,b.parent≠0→r b.parent<r b.id):∀(n:Nat) (b:Br),b∈l→r b.id≤n→(dJ l n b).isSome=true:=by
 intro n
 induction n with
 | zero =>
  intro b hb hn;by_cases hp:b.parent=0
  ·simp[dJ,hp]
  ·have:=hr b hb hp
   omega
 | succ n ih =>
  intro b hb hn;by_cases hp:b.parent=0
  ·simp[dJ,hp]
  ·rcases hu b hb with h|⟨p,h⟩
   ·exact absurd h hp
   ·have hin:=bE h
    have h1:=hr b hb hp;have h2:=ih p hin.1 (by rw[hin.2];omega);obtain⟨d,hd⟩:=Option.isSome_iff_exists.1 h2;unfold dJ;rw[if_neg hp,h];show((dJ l n p).map (· + 1)).isSome=true;rw[hd];rfl
theorem aNi {l:List Br} (hi:bP l) {n:Nat} {b:Br} (hb:b∈l) (h:(dJ l n b).isSome=true):(dJ l l.length b).isSome=true:=by
 obtain⟨d,hd⟩:=Option.isSome_iff_exists.1 h;rw[(eB n b d hd).2 l.length (by have:=lA hi hb hd;omega)];rfl
theorem uS {l:List Br} (h:∀ b∈l,aX l b):aUc l:=fun b hb=>by
 have:=h b hb;unfold aX at this;by_cases hp:b.parent=0
 ·exact .inl hp
 ·rw[if_neg hp] at this
  obtain⟨p,hpp,_⟩:=this;exact .inr ⟨p,hpp⟩
theorem zQ {l:List Br} (hi:bP l) (hu:aUc l) (h:∀ b∈l,(dJ l l.length b).isSome=true):∃ r:Int→Nat,∀ b∈l,b.parent≠0→r b.parent<r b.id:=by
 refine⟨fun n=>match aE l n with
  | none=>0
  | some b=>(dJ l l.length b).getD 0,fun b hb hp=>?_⟩
 rcases hu b hb with h0|⟨p,hpf⟩
 ·exact absurd h0 hp
 ·have hin:=bE hpf
  obtain⟨d,hd⟩:=Option.isSome_iff_exists.1 (h b hb);obtain⟨e,he⟩:=Option.isSome_iff_exists.1 (h p hin.1);simp only [hpf,dN hi hb,hd,he,Option.getD_some]
  have h1:dJ l (l.length+1) b=some (e+1):=by
   unfold dJ;rw[if_neg hp,hpf];show(dJ l l.length p).map (· + 1)=_;rw[he];rfl
  have h2:=(eB _ b d hd).2 (l.length+1) (by have:=(eB _ b d hd).1;omega);rw[h1] at h2;have:=Option.some.inj h2;omega
theorem aBe (l:List Br):(∀ i (h:i<l.length),cB l i h)↔bP l∧(∀ b∈l,nU b)∧∀ b∈l,∀ c∈l,b.mark.toList.isEmpty=false→b.mark.toList=c.mark.toList→b.id=c.id:=by
 constructor
 ·intro h
  have hasc:bP l:=by
   refine List.pairwise_iff_getElem.2 ?_;intro i j hi hj hij
   have key:∀(n:Nat) (h1:i+1+n<l.length),l[i].id<(l[i+1+n]'h1).id:=by
    intro n
    induction n with
    | zero=>intro h1;have:=(h (i+1) h1).2.2.1 b_53;simpa using this
    | succ n ih =>
     intro h1;have h2:=ih b_53;have h3:=(h (i+1+(n+1)) h1).2.2.1 b_53;have h4:l[i+1+(n+1)-1]'b_53=l[i+1+n]'b_53:=by congr 1
     rw[h4] at h3;omega
   have:=key (j-(i+1)) b_53;have h4:l[i+1+(j-(i+1))]'b_53=l[j]:=by congr 1;omega
   rw[h4] at this;exact this
  refine⟨hasc,fun b hb=>?_,fun b hb c hc hne he=>?_⟩
  ·obtain⟨k,hk,rfl⟩:=List.mem_iff_getElem.1 hb
   obtain⟨h1,h2,h3,h4,h5⟩:=h k hk;exact⟨h1,h2,h4,fun hm=>(h5 hm).1⟩
  ·obtain⟨i,hi,rfl⟩:=List.mem_iff_getElem.1 hb
   obtain⟨j,hj,rfl⟩:=List.mem_iff_getElem.1 hc
   have key:∀(i j:Nat) (hi:i<l.length) (hj:j<l.length),i<j→l[j].mark.toList.isEmpty=false→l[i].mark.toList=l[j].mark.toList→False:=by
    intro i j hi hj hij hne he;have:=((h j hj).2.2.2.2 hne).2;rw[List.any_eq_false] at this;have h1:=this l[i] (List.mem_iff_getElem.2 ⟨i,by rw[List.length_take];omega,List.getElem_take⟩);simp[he] at h1
   by_cases hij:i=j
   ·subst hij;rfl
   ·exfalso
    rcases Nat.lt_or_gt_of_ne hij with hlt|hlt
    ·exact key i j hi hj hlt (by rw[← he];exact hne) he
    ·exact key j i hj hi hlt hne he.symm
 ·rintro ⟨hasc,hu,hm⟩ i hi
  obtain⟨h1,h2,h3,h4⟩:=hu l[i] (List.getElem_mem hi);refine⟨h1,h2,fun h0=>List.pairwise_iff_getElem.1 hasc (i-1) i b_53 hi b_53,h3,fun hne=>⟨h4 hne,?_⟩⟩;rw[List.any_eq_false];intro b hb;obtain⟨j,hj,rfl⟩:=List.mem_iff_getElem.1 hb;rw[List.length_take] at hj;rw[List.getElem_take];intro he;have h5:=hm l[i] (List.getElem_mem hi) l[j] (List.getElem_mem b_53) hne (by simpa using (beq_iff_eq.1 he).symm);have h6:=List.pairwise_iff_getElem.1 hasc j i b_53 hi b_53;omega
def lG (P S:Prop) (w:World) (e:Ending) (w':World):Prop:=∃ n:Int,e=.returned (.int .i64 n)∧(n=0↔P)∧(S→n=0∨n=15)∧aA w w'
theorem lG.no {P S:Prop} {w w':World} (n:Int) (hn:n≠0) (h:¬ P) (hs:S→n=15∨n=15) (hg:aA w w'):lG P S w (.returned (.int .i64 n)) w':=⟨n,rfl,⟨fun e=>absurd e hn,fun e=>absurd e h⟩,fun s=>.inr ((hs s).elim id id),hg⟩
theorem lG.yes {P S:Prop} {w w':World} (h:P) (hg:aA w w'):lG P S w (.returned (.int .i64 0)) w':=⟨0,rfl,⟨fun _=>h,fun _=>rfl⟩,fun _=>.inl rfl,hg⟩
theorem bM.s {P:Prop} {w w':World} {e:Ending} (h:bM P w e w'):lG P P w e w':=by
 obtain⟨n,he,hn,hg⟩:=h;exact⟨n,he,hn,fun p=>.inl (hn.2 p),hg⟩
theorem aUk (l:List Br) (i:Nat) (hi:i<l.length) (rv bv:Value) (w:World) (hv:bQ w bv l) (hlen:l.length≤1000000) (hP:∀ i (h:i<l.length),aX l l[i]) :
  Calls Tryz.prog 200 #[.agg #[rv,bv],.int .i64 i] w (lG (eD l l[i]) ((dJ l l.length l[i]).isSome=true) w):=by
 have HV:=uZ hv;obtain⟨A,c,rfl,hlc,hc,hr⟩:=hv.open_;unfold maxLen at hc;obtain⟨b,off,rfl,hbk,hcell⟩:=hr b_53;have HCELL:=uZ hcell;obtain⟨kv,-,hcl⟩:=hcell i hi;obtain⟨c0,c1,c2,c3,c4,-⟩:=hcl w (uX w);have hiz:=h_207;have h0z:=h_215;have HM:=uZ (List.getElem_mem hi);have HD:RowKit.Hid (eD l l[i]↔∃ d,dJ l l.length l[i]=some d∧d≤12):=Iff.rfl;have HSD:RowKit.Hid ((dJ l l.length l[i]).isSome=true→∃ d,dJ l l.length l[i]=some d):=fun h=>Option.isSome_iff_exists.1 h
 generalize hPS:((dJ l l.length l[i]).isSome=true)=PS at HSD ⊢;clear hPS;generalize eD l l[i]=PA at HD ⊢;generalize hy:l[i]=y at c0 c1 c2 c3 c4 HD HM HSD;clear hy;obtain⟨yi,yp,yl,yt,ym,yk⟩:=y;dsimp only at c0 c1 c2 c3 c4;have HF:=h_121;clear hcell hcl hr hv hP;go_enter Tryz.func200,Tryz.ntmps200;go_wp2;go_loopg [5,6] (l.length+1) (fun gg s5 s6 wr=>∃(m C:Nat) (y:Br),s5=.int .i64 (m+1:Nat)∧s6=.pointer (some ⟨C,0,none⟩)∧m≤l.length∧l.length+1-m≤gg∧w.heap.size+1≤C∧Aside (y∈l)∧Aside (fV wr C y)∧Aside (aA (w.alloc (.cells [rv,.slice (some ⟨b,off,none⟩) l.length c].toArray 43)) wr)∧Aside (dJ l l.length ⟨yi,yp,yl,yt,ym,yk⟩=(dJ l (l.length-m) y).map (· + m)))
 case atStart=>exact⟨0,w.heap.size+1,⟨yi,yp,yl,yt,ym,yk⟩,rfl,rfl,by omega,by omega,by omega,(show Aside _ from HM.out),(show Aside _ from vK w _ ⟨yi,yp,yl,yt,ym,yk⟩),(show Aside _ from(uX _).alloc _),(show Aside _ from(show _=_ by simp))⟩
 case round =>
  obtain⟨m,C,y,rfl,rfl,hm,hgk,hC,HYM,HU,BW,HDP⟩:=hrel;have GW:Aside (aA w wr):=((uX w).alloc _).trans BW.out;have t1:=h_234;have t0:=yQ BW.out 0 _ rfl;obtain⟨u0,u1,u2,u3,u4⟩:=HU.out.cells;by_cases hp0:y.parent=0
  ·have hdd:dJ l l.length ⟨yi,yp,yl,yt,ym,yk⟩=some (1+m):=by rw[HDP.out,aAo _ _ _ hp0];rfl
   have hpp:(y.parent != 0)=false:=by simpa using hp0
   have HDD:=uZ hdd;generalize y.parent=zp at u1 hpp;clear hdd hp0 u0 u2 u3 u4;by_cases h12:12<m+1
   ·have h12z:(12:Int)<((m+1:Nat):Int):=by omega
    have Hn:=h_101;go_wp2;go_ret;exact lG.no 15 b_52 Hn.out (fun _=>.inr rfl) GW.out
   ·have h12z:¬ (12:Int)<((m+1:Nat):Int):=by omega
    have Hy:RowKit.Hid PA:=HD.out.2 ⟨1+m,HDD.out,by omega⟩;go_wp2;go_ret;exact lG.yes Hy.out GW.out
  have hpp:(y.parent != 0)=true:=by simpa using hp0
  by_cases hcy:l.length<m+1
  ·have hcyz:(l.length:Int)<((m+1:Nat):Int):=by omega
   have Hn:=h_53
   have HNS:RowKit.Hid (¬ PS):=fun h=>by
    obtain⟨d,hd⟩:=HSD.out h;rw[HDP.out,show l.length-m=0 by omega,nG _ _ hp0] at hd;cases hd
   generalize y.parent=zp at u1 hpp;clear hp0 u0 u2 u3 u4;go_wp2;go_ret;exact lG.no 17 b_52 Hn.out (fun h=>absurd h HNS.out) GW.out
  exact c_20
end Go.Proofs.YtdochkemaiokfaaGreat





