/- Lemmas on what the functions of the program and of the library compute: PvD. The conditions stand at each. -/
import Derived.Test.YtdochkemaiokfaaGreatQ30
import Derived.Test.YtdochkemaiokfaaGreatQ4
/- slices.BinarySearchFunc at evidence, provenance.Add, walked. The condition: the list is short. -/
namespace Go.Proofs.YtdochkemaiokfaaGreat
open Go.RowKit
theorem pAdd1 (y:Cm) (id:Int) (w:World):Calls Tryz.prog 123 #[y.agg,.int .i64 id] w fun e w'=>e=.returned (.int .i64 (Lib.compareInt y.unit id))∧Grew w w':=by
 have h1:=Tryz.cmp_Compare_int y.unit id
 unfold Cm.agg
 generalize Lib.compareInt y.unit id=r at h1
 have H1:=Lib.hid h1
 clear h1
 go_enter Tryz.func123,Tryz.ntmps123
 go_wp2_with fail
 refine(H1.out _).mono ?_
 rintro e w1 ⟨rfl,rfl⟩
 dsimp only
 go_wp2
 go_ret
 exact⟨rfl,(Grew.refl w).alloc _⟩
def cmpC (id:Int) (c:Cm):Int:=Lib.compareInt c.unit id
set_option maxHeartbeats 2000000 in
theorem searchC (l:List Cm) (id:Int) (v:Value) (w:World) (hv:SlC w v l) (hlen:l.length≤1000000)
  (hm:∀ i j (hi:i<l.length) (hj:j<l.length),i≤j→cmpC id l[j]<0→cmpC id l[i]<0) :
  Calls Tryz.prog 122 #[v,.int .i64 id,.func (.func 123) #[] #[]] w fun e w' =>
   e=.returned (.tuple #[.int .i64 (passes (fun y=>decide (cmpC id y<0)) l),.bool (hitB (fun y=>decide (cmpC id y=0)) l (passes (fun y=>decide (cmpC id y<0)) l))])∧Grew w w':=by
 obtain⟨A,c,rfl,hlc,hcap,hr⟩:=hv.open_
 have HR:=Lib.hid hr
 have HM:=Lib.hid hm
 have HP:=Lib.hid (passes_eq (fun y=>decide (cmpC id y<0)) l)
 clear hv hr hm hcap hlc
 generalize passes (fun y=>decide (cmpC id y<0)) l=P0 at HP ⊢
 generalize hh0:hitB (fun y=>decide (cmpC id y=0)) l P0=hb0
 have HH0:=Lib.hid hh0
 clear hh0
 go_enter Tryz.func122,Tryz.ntmps122
 go_wp2
 go_loopg [9,10] l.length (fun gg s9 s10 wr=>∃ i j:Nat,i≤j∧j≤l.length∧j-i≤gg∧s9=.int .i64 i∧s10=.int .i64 j∧Aside (Grew w wr)∧Aside (∀ t (h:t<l.length),t<i→cmpC id l[t]<0)∧Aside (∀ t (h:t<l.length),j≤t→¬ cmpC id l[t]<0))
 case atStart=>exact⟨0,l.length,by omega,by omega,by omega,rfl,rfl,(show Aside _ from Grew.refl _),(show Aside _ from fun t h ht=>by omega),(show Aside _ from fun t h ht=>by omega)⟩
 case round =>
  obtain⟨i,j,hij,hj,hgk,rfl,rfl,BW,M1,M2⟩:=hrel
  by_cases hlt:i<j
  ·have hltz:(i:Int)<(j:Int):=by omega
   have hmid:((i:Int)+(j:Int)) / 2=(((i+j) / 2:Nat):Int):=by omega
   have hk1:i≤(i+j) / 2:=by omega
   have hk2:(i+j) / 2<j:=by omega
   have hkl:(i+j) / 2<l.length:=by omega
   have hkz:(i:Int)+(j:Int)<2*(l.length:Int):=by omega
   have hkz2:((i:Int)+(j:Int)) / 2<(l.length:Int):=by omega
   have h0z:(0:Int)≤((i:Int)+(j:Int)) / 2:=by omega
   have htn:(((i:Int)+(j:Int)) / 2).toNat=(i+j) / 2:=by omega
   obtain⟨b,off,rfl,hb,hcell⟩:=HR.out (by omega)
   obtain⟨c0,c1,c2,c3⟩:=hcell wr BW.out ((i+j) / 2) hkl
   have HN1:RowKit.Hid (cmpC id l[(i+j) / 2]<0→∀ t (h:t<l.length),t<(i+j) / 2+1→cmpC id l[t]<0):=fun h t ht htk=>HM.out t _ ht hkl (by omega) h
   have HN2:RowKit.Hid (¬ cmpC id l[(i+j) / 2]<0→∀ t (h:t<l.length),(i+j) / 2≤t→¬ cmpC id l[t]<0):=fun h t ht htk h3=>h (HM.out _ t hkl ht htk h3)
   have HMID:=Lib.hid hmid
   clear hcell hmid
   unfold cmpC at HN1 HN2
   generalize l[(i+j) / 2]=y at c0 c1 c2 c3 HN1 HN2
   obtain⟨yi,yp,yl,yt⟩:=y
   dsimp only at c0 c1 c2 c3 HN1 HN2
   have kC:=fun W=>pAdd1 ⟨yi,yp,yl,yt⟩ id W
   dsimp only [Cm.agg] at kC
   generalize Lib.compareInt yi id=r at kC HN1 HN2
   have KC:=Lib.hid kC
   clear kC
   by_cases hneg:r<0
   ·have Hn:=Lib.hid (HN1.out hneg)
    go_wp2_with fail
    refine(KC.out _).mono ?_
    rintro e w1 ⟨rfl,g1⟩
    have HG1:=Lib.hid g1
    clear g1
    dsimp only
    go_wp2
    rw[HMID.out]
    go_roundg (j-((i+j) / 2+1))
    case measure=>omega
    case rel=>exact⟨(i+j) / 2+1,j,by omega,by omega,by omega,by go_num,rfl,(show Aside _ from BW.out.trans HG1.out),(show Aside _ from Hn.out),M2⟩
   ·have hneg':decide (r<0)=false:=by simpa using hneg
    have Hn:=Lib.hid (HN2.out hneg)
    go_wp2_with fail
    refine(KC.out _).mono ?_
    rintro e w1 ⟨rfl,g1⟩
    have HG1:=Lib.hid g1
    clear g1
    dsimp only
    go_wp2
    rw[HMID.out]
    go_roundg ((i+j) / 2-i)
    case measure=>omega
    case rel=>exact⟨i,(i+j) / 2,by omega,by omega,by omega,rfl,rfl,(show Aside _ from BW.out.trans HG1.out),M1,(show Aside _ from Hn.out)⟩
  ·have hltz:¬ (i:Int)<(j:Int):=by omega
   obtain rfl:i=j:=by omega
   have hP:=HP.out i hj (fun t h ht=>by simpa using M1.out t h ht) (fun t h ht=>by simpa using M2.out t h ht)
   subst hP
   by_cases hil:P0<l.length
   ·have hilz:(P0:Int)<(l.length:Int):=by omega
    have h0z:(0:Int)≤(P0:Int):=by omega
    obtain⟨b,off,rfl,hb,hcell⟩:=HR.out (by omega)
    obtain⟨c0,c1,c2,c3⟩:=hcell wr BW.out P0 hil
    have hh:(cmpC id l[P0] == 0)=hb0:=by
     rw[← HH0.out]
     simp only [hitB,List.getElem?_eq_getElem hil]
     rfl
    unfold cmpC at hh
    clear hcell
    generalize l[P0]=y at c0 c1 c2 c3 hh
    obtain⟨yi,yp,yl,yt⟩:=y
    dsimp only at c0 c1 c2 c3 hh
    have kC:=fun W=>pAdd1 ⟨yi,yp,yl,yt⟩ id W
    dsimp only [Cm.agg] at kC
    generalize Lib.compareInt yi id=r at kC hh
    have KC:=Lib.hid kC
    have HHE:=Lib.hid hh
    clear kC hh
    go_wp2_with fail
    refine(KC.out _).mono ?_
    rintro e w1 ⟨rfl,g1⟩
    have HG1:=Lib.hid g1
    clear g1
    dsimp only
    go_wp2
    go_ret2
    exact⟨ret_ib HHE.out,BW.out.trans HG1.out⟩
   ·have hilz:decide ((P0:Int)<(l.length:Int))=false:=by simp;omega
    have hh:false=hb0:=by rw[← HH0.out];simp[hitB,hil]
    have HHE:=Lib.hid hh
    clear hh
    go_wp2
    go_ret2
    exact⟨ret_ib HHE.out,BW.out⟩
theorem cmp_lt (id u:Int):Lib.compareInt u id<0↔u<id:=by
 unfold Lib.compareInt
 split
 ·simp;omega
 ·split
  ·simp;omega
  ·simp;omega
theorem cmp_eq (id u:Int):Lib.compareInt u id=0↔u=id:=by
 unfold Lib.compareInt
 split
 ·simp;omega
 ·split
  ·simp;omega
  ·simp;omega
theorem rightC_asc:∀(r pre:List Cm),rightC pre r=true→pre.Pairwise (fun a b=>a.unit<b.unit)→(pre++r).Pairwise (fun a b=>a.unit<b.unit)
 | [],pre,_,hp=>by rw[List.append_nil];exact hp
 | c::r,pre,h,hp=>by
  rw[rightC] at h
  simp only [Bool.and_eq_true] at h
  have:=rightC_asc r (pre++[c]) h.2.2.2 (by
   refine List.pairwise_append.2 ⟨hp,by simp,fun a ha b hb=>?_⟩
   rw[List.mem_singleton.1 hb]
   have h2:=h.2.1
   cases hg:pre.getLast? with
   | none=>rw[List.getLast?_eq_none_iff.1 hg] at ha;cases ha
   | some p =>
    rw[hg] at h2
    have h2:p.unit<c.unit:=by simpa using h2
    obtain⟨m,hm⟩:=List.getLast?_eq_some_iff.1 hg
    rw[hm] at ha hp
    rcases List.mem_append.1 ha with ha|ha
    ·have:=(List.pairwise_append.1 hp).2.2 a ha p (by simp)
     omega
    ·rw[List.mem_singleton.1 ha];exact h2)
  rwa [List.append_assoc,List.singleton_append] at this
theorem asc_get {l:List Cm} (h:l.Pairwise fun a b=>a.unit<b.unit) {i j:Nat} (hi:i<l.length) (hj:j<l.length) (hij:i≤j):l[i].unit≤l[j].unit:=by
 rcases Nat.lt_or_ge i j with hlt|hge
 ·exact Int.le_of_lt (List.pairwise_iff_getElem.1 h i j hi hj hlt)
 ·obtain rfl:i=j:=by omega
  exact Int.le_refl _
theorem hit_any {l:List Cm} (h:l.Pairwise fun a b=>a.unit<b.unit) (u:Int):hitB (fun y=>decide (cmpC u y=0)) l (passes (fun y=>decide (cmpC u y<0)) l)=l.any fun x=>x.unit == u:=by
 have hlt:∀ y:Cm,decide (cmpC u y<0)=decide (y.unit<u):=fun y=>by
  rw[decide_eq_decide]
  exact cmp_lt u y.unit
 have heq:∀ y:Cm,decide (cmpC u y=0)=(y.unit == u):=fun y=>by
  rw[Bool.eq_iff_iff,decide_eq_true_iff,beq_iff_eq]
  exact cmp_eq u y.unit
 have e1:(fun y=>decide (cmpC u y<0))=fun y:Cm=>decide (y.unit<u):=funext hlt
 have e2:(fun y=>decide (cmpC u y=0))=fun y:Cm=>y.unit == u:=funext heq
 rw[e1,e2]
 clear e1 e2 hlt heq
 induction l with
 | nil=>rfl
 | cons x r ih =>
  obtain⟨h1,h2⟩:=List.pairwise_cons.1 h
  have ih:=ih h2
  unfold passes at ih ⊢
  by_cases hx:x.unit<u
  ·rw[List.takeWhile_cons,if_pos (by simpa using hx),List.length_cons]
   have hne:(x.unit == u)=false:=by rw[beq_eq_false_iff_ne];omega
   rw[List.any_cons,hne,Bool.false_or,← ih]
   unfold hitB
   rw[List.getElem?_cons_succ]
  ·rw[List.takeWhile_cons,if_neg (by simpa using hx),List.length_nil]
   unfold hitB
   rw[List.getElem?_cons_zero,List.any_cons]
   show(x.unit == u)=(x.unit == u || r.any fun x=>x.unit == u)
   cases hu:(x.unit == u)
   ·rw[Bool.false_or]
    symm
    rw[List.any_eq_false]
    intro y hy
    have:=h1 y hy
    have hxu:x.unit≠u:=by simpa using hu
    rw[beq_iff_eq]
    omega
   ·rfl
theorem passes_le {α:Type} (p:α→Bool) (l:List α):passes p l≤l.length:=by
 unfold passes
 exact(List.takeWhile_sublist p).length_le
def RetAdd (n:Int) (w:World) (e:Ending) (w':World):Prop:=∃ A k c,e=.returned (.tuple #[.slice A k c,.int .i64 n])∧Grew w w'
theorem retAdd {w w':World} {A:Option Addr} {k c:Nat} {n R:Int} (h:R=n) (g:Grew w w'):RetAdd R w (.returned (.tuple #[.slice A k c,.int .i64 n])) w':=⟨A,k,c,by rw[h],g⟩
set_option maxHeartbeats 4000000 in
set_option maxRecDepth 100000 in
theorem pAdd (l:List Cm) (c:Cm) (lv:Value) (w:World) (hv:SlC w lv l) (hlen:l.length≤1000000):Calls Tryz.prog 89 #[lv,c.agg] w (RetAdd (addE l c) w):=by
 have KR:=Lib.hid (fun W (hW:Grew w W)=>pRight l lv W (hv.mono hW))
 have KA:=Lib.hid (fun W=>pAlone c W)
 have KC:=Lib.hid (fun W (hW:Grew w W)=>pClash l c lv W (hv.mono hW))
 have kS:=fun(hg:rightC [] l=true) W (hW:Grew w W)=>searchC l c.unit lv W (hv.mono hW) hlen (fun i j hi hj hij h=>by
  have hasc:=asc_get (by have:=rightC_asc l [] hg List.Pairwise.nil;simpa using this) hi hj hij
  unfold cmpC at h ⊢
  rw[cmp_lt] at h ⊢
  omega)
 have kH:=fun(hg:rightC [] l=true)=>hit_any (l:=l) (by have:=rightC_asc l [] hg List.Pairwise.nil;simpa using this) c.unit
 have hpl:=passes_le (fun y=>decide (cmpC c.unit y<0)) l
 have hins:=fun w0 W v (ho:W.ownsRow w0.heap.size 69 4 v l.length (l.flatMap Cm.cells)) (hW:Grew w0 W) vb h1 h2=>insertC w0 l c (passes (fun y=>decide (cmpC c.unit y<0)) l) vb v W ho hW hpl hlen h1 h2
 have KCl:=Lib.hid (fun W (hW:Grew w W)=>cloneC l lv W (hv.mono hW) (by omega))
 generalize passes (fun y=>decide (cmpC c.unit y<0)) l=P0 at kS kH hpl hins
 generalize hitB (fun y=>decide (cmpC c.unit y=0)) l P0=H0 at kS kH
 unfold addE
 unfold rightCB at KR
 generalize rightC [] l=R0 at KR kS kH ⊢
 generalize aloneC c=Q0 at KA ⊢
 generalize clashF l c=C0 at KC ⊢
 generalize (l.any fun x=>x.unit == c.unit)=U0 at kH ⊢
 obtain⟨A,cc,rfl,-⟩:=hv.open_
 have hL:=Lib.hid hlen
 clear hv hlen
 have KS:=Lib.hid kS
 have KH:=Lib.hid kH
 have HPL:=Lib.hid hpl
 clear kS kH hpl
 obtain⟨cu,co,ca,cn⟩:=c
 have HINS:RowKit.Hid (∀(w0 W:World) v (ho:W.ownsRow w0.heap.size 69 4 v l.length (l.flatMap Cm.cells)) (hW:Grew w0 W) vb (h1:W.heap[vb]? = some (.cells #[.int .i64 cu,.int .i64 co,.int .i64 ca,.int .i64 cn] 69 (0,0))) (h2:some vb≠v.ownBlock),Calls Tryz.prog 125 #[v,.int .i64 P0,.slice (some ⟨vb,0,none⟩) 1 1] W fun e w'=>∃ A k c,e=.returned (.slice A k c)∧Grew w0 w'):=fun w0 W v ho hW vb h1 h2=>(hins w0 W v ho hW vb h1 h2).mono (by
  rintro e w' ⟨v',rfl,ho',hg',-⟩
  obtain⟨A',c',rfl⟩:=own_slice ho'
  exact⟨A',_,c',rfl,Below.grown hW hg' hW.size (fun k e=>(ho.lt k e).1)⟩)
 clear hins
 unfold Cm.agg at KA KC ⊢
 dsimp only at KA KC KS ⊢
 have HG0:=Lib.hid ((Grew.refl w).alloc (.cells #[.int .i64 cu,.int .i64 co,.int .i64 ca,.int .i64 cn] 69))
 by_cases hr:256<l.length∨R0=false
 ·rw[if_pos hr]
  have hd:(decide (l.length≤256) && R0)=false:=by
   rcases hr with h|h
   ·rw[decide_eq_false (by omega)];rfl
   ·rw[h,Bool.and_false]
  rw[hd] at KR
  clear hr hd
  go_enter Tryz.func89,Tryz.ntmps89
  go_wp2_with fail
  refine(KR.out _ HG0.out).mono ?_
  rintro e w1 ⟨rfl,g1⟩
  have HG1:=Lib.hid (HG0.out.trans g1)
  clear g1
  dsimp only
  go_wp2
  go_ret2
  exact⟨_,_,_,rfl,HG1.out⟩
 rw[if_neg hr]
 simp only [not_or,Bool.not_eq_false] at hr
 obtain⟨hle,rfl⟩:=hr
 rw[decide_eq_true (by omega)] at KR
 have KS1:=Lib.hid (KS.out rfl)
 obtain rfl:=KH.out rfl
 clear KS KH
 cases Q0 with
 | false =>
  rw[if_pos rfl]
  go_enter Tryz.func89,Tryz.ntmps89
  go_wp2_with fail
  refine(KR.out _ HG0.out).mono ?_
  rintro e w1 ⟨rfl,g1⟩
  have HG1:=Lib.hid (HG0.out.trans g1)
  have x0:=new_cell g1 0 _ rfl
  have x1:=new_cell g1 1 _ rfl
  have x2:=new_cell g1 2 _ rfl
  have x3:=new_cell g1 3 _ rfl
  clear g1
  dsimp only [Bool.and_true]
  go_wp2_with fail
  refine(KA.out _).mono ?_
  rintro e w2 ⟨rfl,g2⟩
  have HG2:=Lib.hid (HG1.out.trans g2)
  clear g2 x0 x1 x2 x3
  dsimp only
  go_wp2
  go_ret2
  exact⟨_,_,_,rfl,HG2.out⟩
 | true =>
  rw[if_neg (by decide)]
  generalize hRES:(if H0=true then(6:Int) else if C0≠0 then C0 else if 256≤l.length then 8 else 0)=RES
  have HRES:=Lib.hid hRES
  clear hRES
  go_enter Tryz.func89,Tryz.ntmps89
  go_wp2_with fail
  refine(KR.out _ HG0.out).mono ?_
  rintro e w1 ⟨rfl,g1⟩
  have HG1:=Lib.hid (HG0.out.trans g1)
  have x0:=new_cell g1 0 _ rfl
  have x1:=new_cell g1 1 _ rfl
  have x2:=new_cell g1 2 _ rfl
  have x3:=new_cell g1 3 _ rfl
  clear g1
  dsimp only [Bool.and_true]
  go_wp2_with fail
  refine(KA.out _).mono ?_
  rintro e w2 ⟨rfl,g2⟩
  have HG2:=Lib.hid (HG1.out.trans g2)
  replace x0:=keep_cell g2 x0
  replace x1:=keep_cell g2 x1
  replace x2:=keep_cell g2 x2
  replace x3:=keep_cell g2 x3
  clear g2
  dsimp only
  go_wp2_with fail
  refine(KS1.out _ HG2.out).mono ?_
  rintro e w3 ⟨rfl,g3⟩
  have HG3:=Lib.hid (HG2.out.trans g3)
  replace x0:=keep_cell g3 x0
  replace x1:=keep_cell g3 x1
  replace x2:=keep_cell g3 x2
  replace x3:=keep_cell g3 x3
  clear g3
  dsimp only
  go_wp2_with fail
  refine(KC.out _ HG3.out).mono ?_
  rintro e w4 ⟨rfl,g4⟩
  have HG4:=Lib.hid (HG3.out.trans g4)
  replace x0:=keep_cell g4 x0
  replace x1:=keep_cell g4 x1
  replace x2:=keep_cell g4 x2
  replace x3:=keep_cell g4 x3
  clear g4
  dsimp only
  have hS:∀ W,Grew w4 W→W.cell? ⟨w.heap.size,0,none⟩=some (.int .i64 cu)∧W.cell? ⟨w.heap.size,1,none⟩=some (.int .i64 co)∧W.cell? ⟨w.heap.size,2,none⟩=some (.int .i64 ca)∧W.cell? ⟨w.heap.size,3,none⟩=some (.int .i64 cn)∧Grew w4 W:=fun W g=>⟨keep_cell g x0,keep_cell g x1,keep_cell g x2,keep_cell g x3,g⟩
  have HSS:=Lib.hid hS
  clear hS
  cases H0 with
  | true =>
   have HR6:RowKit.Hid (RES=6):=by rw[← HRES.out];exact Lib.hid (if_pos rfl)
   go_wp2
   go_ret2
   exact retAdd HR6.out HG4.out
  | false =>
   by_cases hc:C0=0
   ·subst hc
    have hb2:((0:Int) != 0)=false:=rfl
    by_cases hbig:256≤l.length
    ·have hbz:(256:Int)≤(l.length:Int):=by omega
     have HR8:RowKit.Hid (RES=8):=by rw[← HRES.out];exact Lib.hid (by simp[hbig])
     go_wp2
     go_ret2
     exact retAdd HR8.out HG4.out
    ·have hbz:decide ((256:Int)≤(l.length:Int))=false:=by rw[decide_eq_false_iff_not];omega
     have HR0:RowKit.Hid (RES=0):=by rw[← HRES.out];exact Lib.hid (by simp[hbig])
     clear HRES hbig KC KS1 KR KA HG0 HG1 HG2 HG3
     go_wp2_with fail
     go_region_held3 (fun W=>W.cell? ⟨w.heap.size,0,none⟩=some (.int .i64 cu)∧W.cell? ⟨w.heap.size,1,none⟩=some (.int .i64 co)∧W.cell? ⟨w.heap.size,2,none⟩=some (.int .i64 ca)∧W.cell? ⟨w.heap.size,3,none⟩=some (.int .i64 cn)∧Grew w4 W) (refine HSS.out _ (by repeat (with_reducible first|exact Grew.refl _|exact GZ.out|exact GQ.out|refine Grew.drew ?_|refine Grew.alloc ?_ _))) (first|(go_at_call 126;with_reducible refine(KCl.out _ (HG4.out.trans (by repeat (with_reducible first|exact Grew.refl _|refine Grew.drew ?_|refine Grew.alloc ?_ _)))).mono ?_;rintro e wq ⟨vq,rfl,hoq,gq⟩;obtain⟨Aq,cq,rfl⟩:=own_slice hoq;have GQ:=Lib.hid (show Grew w4 wq from Grew.trans (by repeat (with_reducible first|exact Grew.refl _|refine Grew.drew ?_|refine Grew.alloc ?_ _)) gq);have HNQ:=Lib.hid (show some wq.heap.size≠(Value.slice Aq l.length cq).ownBlock from fun e=>by have h1:=(hoq.lt _ e.symm).2;omega);have HOQ:=Lib.hid (ownMono hoq (show w4.heap.size≤_ from Grew.size (by repeat (with_reducible first|exact Grew.refl _|refine Grew.drew ?_|refine Grew.alloc ?_ _))));(try (have hdr:Grew (w4.alloc (.cells #[.int .i64 cu,.int .i64 co,.int .i64 ca,.int .i64 cn] 69)).drew wq:=(by with_reducible exact gq);have LB:=Lib.hid (heapKeep (Grew.trans (Grew.refl _).drew hdr) (heapNew w4 (.cells #[.int .i64 cu,.int .i64 co,.int .i64 ca,.int .i64 cn] 69)));have LN:=Lib.hid (show some w4.heap.size≠(Value.slice Aq l.length cq).ownBlock from fun e=>by have h1:=(hoq.lt _ e.symm).1;simp at h1;omega)));(try (have hdr:Grew (w4.alloc (.cells #[.int .i64 cu,.int .i64 co,.int .i64 ca,.int .i64 cn] 69)) wq:=(by with_reducible exact gq);have LB:=Lib.hid (heapKeep hdr (heapNew w4 (.cells #[.int .i64 cu,.int .i64 co,.int .i64 ca,.int .i64 cn] 69)));have LN:=Lib.hid (show some w4.heap.size≠(Value.slice Aq l.length cq).ownBlock from fun e=>by have h1:=(hoq.lt _ e.symm).1;simp at h1;omega)));clear hoq gq)|(go_at_call 125;(first|(with_reducible refine(HINS.out w4 _ _ (own_later HOQ.out (by repeat (with_reducible first|exact Grew.refl _|refine Grew.drew ?_|refine Grew.alloc ?_ _))) (GQ.out.trans (by repeat (with_reducible first|exact Grew.refl _|refine Grew.drew ?_|refine Grew.alloc ?_ _))) _ (heapNew wq (.cells #[.int .i64 cu,.int .i64 co,.int .i64 ca,.int .i64 cn] 69)) HNQ.out).mono ?_)|(with_reducible refine(HINS.out w4 _ _ (own_later HOQ.out (by repeat (with_reducible first|exact Grew.refl _|refine Grew.drew ?_|refine Grew.alloc ?_ _))) (GQ.out.trans (by repeat (with_reducible first|exact Grew.refl _|refine Grew.drew ?_|refine Grew.alloc ?_ _))) _ LB.out LN.out).mono ?_));rintro e wz ⟨Az,kz,cz,rfl,gz⟩;have GZ:=Lib.hid gz;clear gz))
     all_goals go_wp2
     all_goals go_ret2
     all_goals exact retAdd HR0.out (HG4.out.trans GZ.out)
   ·have hb2:(C0 != 0)=true:=by simpa using hc
    have HRC:RowKit.Hid (RES=C0):=by rw[← HRES.out];exact Lib.hid (by simp[hc])
    clear hc
    go_wp2
    go_ret2
    exact retAdd HRC.out HG4.out
end Go.Proofs.YtdochkemaiokfaaGreat