/- Lemmas on what the functions of the program and of the library compute: PvD, UnF, UnG0. The conditions stand at each. -/
import Derived.Test.YtdochkemaiokfaaGreatQ31
import Derived.Test.YtdochkemaiokfaaGreatQ4
import Derived.Test.YtdochkemaiokfaaGreatQ8
import Derived.Deep.CutRange
import Derived.Deep.RegionHeld3
import Derived.BigQuiet
import Derived.Test.YtdochkemaiokfaaGreatQ14
set_option maxHeartbeats 16000000
set_option maxRecDepth 100000
set_option linter.all false
namespace Go.Proofs.YtdochkemaiokfaaGreat
open Go.RowKit
theorem h_133 {p:Prop} (h:p:=by
 exact uZ ((uX w).alloc (.cells #[.int .i64 cu,.int .i64 co,.int .i64 ca,.int .i64 cn] 69))
):p:=h
theorem aZj (y:Cm) (id:Int) (w:World):Calls Tryz.prog 123 #[y.agg,.int .i64 id] w fun e w'=>e=.returned (.int .i64 (Lib.compareInt y.unit id))∧aA w w':=by
 have h1:=Tryz.cmp_Compare_int y.unit id;unfold Cm.agg;generalize Lib.compareInt y.unit id=r at h1;have H1:=uZ h1;clear h1;go_enter Tryz.func123,Tryz.ntmps123;exact c_101
def pQ (id:Int) (c:Cm):Int:=Lib.compareInt c.unit id
theorem aUq (l:List Cm) (id:Int) (v:Value) (w:World) (hv:SlC w v l) (hlen:l.length≤1000000)
  (hm:∀ i j (hi:i<l.length) (hj:j<l.length),i≤j→pQ id l[j]<0→pQ id l[i]<0) :
  Calls Tryz.prog 122 #[v,.int .i64 id,.func (.func 123) #[] #[]] w fun e w' =>
   e=.returned (.tuple #[.int .i64 (eH (fun y=>decide (pQ id y<0)) l),.bool (rJ (fun y=>decide (pQ id y=0)) l (eH (fun y=>decide (pQ id y<0)) l))])∧aA w w':=by
 obtain⟨A,c,rfl,hlc,hcap,hr⟩:=hv.open_;have HR:=uZ hr;have HM:=uZ hm;have HP:=uZ (lW (fun y=>decide (pQ id y<0)) l);clear hv hr hm hcap hlc;generalize eH (fun y=>decide (pQ id y<0)) l=P0 at HP ⊢;generalize hh0:rJ (fun y=>decide (pQ id y=0)) l P0=hb0;have HH0:=uZ hh0;clear hh0;go_enter Tryz.func122,Tryz.ntmps122;go_wp2;go_loopg [9,10] l.length (fun gg s9 s10 wr=>∃ i j:Nat,i≤j∧j≤l.length∧j-i≤gg∧s9=.int .i64 i∧s10=.int .i64 j∧Aside (aA w wr)∧Aside (∀ t (h:t<l.length),t<i→pQ id l[t]<0)∧Aside (∀ t (h:t<l.length),j≤t→¬ pQ id l[t]<0))
 case atStart=>exact⟨0,l.length,by omega,by omega,by omega,rfl,rfl,(show Aside _ from uX _),(show Aside _ from fun t h ht=>by omega),(show Aside _ from fun t h ht=>by omega)⟩
 case round =>
  obtain⟨i,j,hij,hj,hgk,rfl,rfl,BW,M1,M2⟩:=hrel;by_cases hlt:i<j
  ·have hltz:(i:Int)<(j:Int):=by omega
   have hmid:=h_153;have hk1:i≤(i+j) / 2:=by omega
   have hk2:(i+j) / 2<j:=by omega
   have hkl:(i+j) / 2<l.length:=by omega
   have hkz:=h_178;have hkz2:=h_172;have h0z:=h_191;have htn:=h_168;obtain⟨b,off,rfl,hb,hcell⟩:=HR.out b_53;obtain⟨c0,c1,c2,c3⟩:=hcell wr BW.out ((i+j) / 2) hkl;have HN1:RowKit.Hid (pQ id l[(i+j) / 2]<0→∀ t (h:t<l.length),t<(i+j) / 2+1→pQ id l[t]<0):=fun h t ht htk=>HM.out t _ ht hkl b_53 h
   have HN2:RowKit.Hid (¬ pQ id l[(i+j) / 2]<0→∀ t (h:t<l.length),(i+j) / 2≤t→¬ pQ id l[t]<0):=fun h t ht htk h3=>h (HM.out _ t hkl ht htk h3)
   have HMID:=uZ hmid;clear hcell hmid;unfold pQ at HN1 HN2;generalize l[(i+j) / 2]=y at c0 c1 c2 c3 HN1 HN2;obtain⟨yi,yp,yl,yt⟩:=y;dsimp only at c0 c1 c2 c3 HN1 HN2;have kC:=fun W=>aZj ⟨yi,yp,yl,yt⟩ id W
   dsimp only [Cm.agg] at kC;generalize Lib.compareInt yi id=r at kC HN1 HN2;have KC:=uZ kC;clear kC;by_cases hneg:r<0
   ·have Hn:=uZ (HN1.out hneg)
    go_wp2_with fail;refine(KC.out _).mono ?_;rintro e w1 ⟨rfl,g1⟩;have HG1:=uZ g1;clear g1;dsimp only;go_wp2;rw[HMID.out];go_roundg (j-((i+j) / 2+1))
    case measure=>omega
    case rel=>exact⟨(i+j) / 2+1,j,by omega,by omega,by omega,by go_num,rfl,(show Aside _ from BW.out.trans HG1.out),(show Aside _ from Hn.out),M2⟩
   ·have hneg':decide (r<0)=false:=by simpa using hneg
    have Hn:=uZ (HN2.out hneg);go_wp2_with fail;refine(KC.out _).mono ?_;rintro e w1 ⟨rfl,g1⟩;have HG1:=uZ g1;clear g1;dsimp only;go_wp2;rw[HMID.out];go_roundg ((i+j) / 2-i)
    case measure=>omega
    case rel=>exact⟨i,(i+j) / 2,by omega,by omega,by omega,rfl,rfl,(show Aside _ from BW.out.trans HG1.out),M1,(show Aside _ from Hn.out)⟩
  ·have hltz:¬ (i:Int)<(j:Int):=by omega
   obtain rfl:i=j:=by omega
   have hP:=h_123;subst hP;by_cases hil:P0<l.length
   ·have hilz:(P0:Int)<(l.length:Int):=by omega
    have h0z:(0:Int)≤(P0:Int):=by omega
    obtain⟨b,off,rfl,hb,hcell⟩:=HR.out b_53;obtain⟨c0,c1,c2,c3⟩:=hcell wr BW.out P0 hil
    have hh:(pQ id l[P0] == 0)=hb0:=by
     rw[← HH0.out];simp only [rJ,List.getElem?_eq_getElem hil];rfl
    unfold pQ at hh;clear hcell;generalize l[P0]=y at c0 c1 c2 c3 hh;obtain⟨yi,yp,yl,yt⟩:=y;dsimp only at c0 c1 c2 c3 hh;have kC:=fun W=>aZj ⟨yi,yp,yl,yt⟩ id W
    dsimp only [Cm.agg] at kC;generalize Lib.compareInt yi id=r at kC hh;have KC:=uZ kC;have HHE:=uZ hh;clear kC hh;go_wp2_with fail;refine(KC.out _).mono ?_;rintro e w1 ⟨rfl,g1⟩;have HG1:=uZ g1;clear g1;dsimp only;go_wp2;go_ret2;exact⟨uM HHE.out,BW.out.trans HG1.out⟩
   ·have hilz:decide ((P0:Int)<(l.length:Int))=false:=by simp;omega
    have hh:false=hb0:=by rw[← HH0.out];simp[rJ,hil]
    have HHE:=uZ hh;clear hh;go_wp2;go_ret2;exact⟨uM HHE.out,BW.out⟩
theorem aTq (id u:Int):Lib.compareInt u id<0↔u<id:=by
 unfold Lib.compareInt;split
 ·simp;omega
 ·split
  ·simp;omega
  ·simp;omega
theorem bAn (id u:Int):Lib.compareInt u id=0↔u=id:=by
 unfold Lib.compareInt;split
 ·simp;omega
 ·split
  ·simp;omega
  ·simp;omega
theorem pZ:∀(r pre:List Cm),dZ pre r=true→pre.Pairwise (fun a b=>a.unit<b.unit)→(pre++r).Pairwise (fun a b=>a.unit<b.unit)
 | [],pre,_,hp=>by rw[List.append_nil];exact hp
 | c::r,pre,h,hp=>by
  rw[dZ] at h;simp only [Bool.and_eq_true] at h
  have:=pZ r (pre++[c]) h.2.2.2 (by
   refine List.pairwise_append.2 ⟨hp,by simp,fun a ha b hb=>?_⟩;rw[List.mem_singleton.1 hb];have h2:=h.2.1
   cases hg:pre.getLast? with
   | none=>rw[List.getLast?_eq_none_iff.1 hg] at ha;cases ha
   | some p =>
    rw[hg] at h2;have h2:p.unit<c.unit:=by simpa using h2
    obtain⟨m,hm⟩:=List.getLast?_eq_some_iff.1 hg;rw[hm] at ha hp;rcases List.mem_append.1 ha with ha|ha
    ·have:=(List.pairwise_append.1 hp).2.2 a ha p b_54
     omega
    ·rw[List.mem_singleton.1 ha];exact h2)
  rwa [List.append_assoc,List.singleton_append] at this
theorem aWo {l:List Cm} (h:l.Pairwise fun a b=>a.unit<b.unit) {i j:Nat} (hi:i<l.length) (hj:j<l.length) (hij:i≤j):l[i].unit≤l[j].unit:=by
 rcases Nat.lt_or_ge i j with hlt|hge
 ·exact Int.le_of_lt (List.pairwise_iff_getElem.1 h i j hi hj hlt)
 ·obtain rfl:i=j:=by omega
  exact Int.le_refl _
theorem aWa {l:List Cm} (h:l.Pairwise fun a b=>a.unit<b.unit) (u:Int):rJ (fun y=>decide (pQ u y=0)) l (eH (fun y=>decide (pQ u y<0)) l)=l.any fun x=>x.unit == u:=by
 have hlt:∀ y:Cm,decide (pQ u y<0)=decide (y.unit<u):=fun y=>by
  rw[decide_eq_decide];exact aTq u y.unit
 have heq:∀ y:Cm,decide (pQ u y=0)=(y.unit == u):=fun y=>by
  rw[Bool.eq_iff_iff,decide_eq_true_iff,beq_iff_eq];exact bAn u y.unit
 have e1:(fun y=>decide (pQ u y<0))=fun y:Cm=>decide (y.unit<u):=funext hlt
 have e2:(fun y=>decide (pQ u y=0))=fun y:Cm=>y.unit == u:=funext heq
 rw[e1,e2];clear e1 e2 hlt heq
 induction l with
 | nil=>rfl
 | cons x r ih =>
  obtain⟨h1,h2⟩:=List.pairwise_cons.1 h;have ih:=ih h2;unfold eH at ih ⊢;by_cases hx:x.unit<u
  ·rw[List.takeWhile_cons,if_pos (by simpa using hx),List.length_cons]
   have hne:(x.unit == u)=false:=by rw[beq_eq_false_iff_ne];omega
   rw[List.any_cons,hne,Bool.false_or,← ih];unfold rJ;rw[List.getElem?_cons_succ]
  ·rw[List.takeWhile_cons,if_neg (by simpa using hx),List.length_nil]
   unfold rJ;rw[List.getElem?_cons_zero,List.any_cons];show(x.unit == u)=(x.unit == u || r.any fun x=>x.unit == u)
   cases hu:(x.unit == u)
   ·rw[Bool.false_or]
    symm;rw[List.any_eq_false];intro y hy;have:=h1 y hy;have hxu:x.unit≠u:=by simpa using hu
    rw[beq_iff_eq];omega
   ·rfl
theorem aLe {α:Type} (p:α→Bool) (l:List α):eH p l≤l.length:=by
 unfold eH;exact(List.takeWhile_sublist p).length_le
def aOp (n:Int) (w:World) (e:Ending) (w':World):Prop:=∃ A k c,e=.returned (.tuple #[.slice A k c,.int .i64 n])∧aA w w'
theorem aEu {w w':World} {A:Option Addr} {k c:Nat} {n R:Int} (h:R=n) (g:aA w w'):aOp R w (.returned (.tuple #[.slice A k c,.int .i64 n])) w':=⟨A,k,c,by rw[h],g⟩
theorem bEj (l:List Cm) (c:Cm) (lv:Value) (w:World) (hv:SlC w lv l) (hlen:l.length≤1000000):Calls Tryz.prog 89 #[lv,c.agg] w (aOp (sB l c) w):=by
 have KR:=uZ (fun W (hW:aA w W)=>aZh l lv W (hv.mono hW));have KA:=uZ (fun W=>aTg c W);have KC:=uZ (fun W (hW:aA w W)=>aTf l c lv W (hv.mono hW))
 have kS:=fun(hg:dZ [] l=true) W (hW:aA w W)=>aUq l c.unit lv W (hv.mono hW) hlen (fun i j hi hj hij h=>by
  have hasc:=aWo (by have:=pZ l [] hg List.Pairwise.nil;simpa using this) hi hj hij;unfold pQ at h ⊢;rw[aTq] at h ⊢
  omega)
 have kH:=fun(hg:dZ [] l=true)=>aWa (l:=l) (by have:=pZ l [] hg List.Pairwise.nil;simpa using this) c.unit
 have hpl:=aLe (fun y=>decide (pQ c.unit y<0)) l;have hins:=fun w0 W v (ho:W.ownsRow w0.heap.size 69 4 v l.length (l.flatMap Cm.cells)) (hW:aA w0 W) vb h1 h2=>aVr w0 l c (eH (fun y=>decide (pQ c.unit y<0)) l) vb v W ho hW hpl hlen h1 h2
 have KCl:=uZ (fun W (hW:aA w W)=>bAo l lv W (hv.mono hW) b_53);generalize eH (fun y=>decide (pQ c.unit y<0)) l=P0 at kS kH hpl hins;generalize rJ (fun y=>decide (pQ c.unit y=0)) l P0=H0 at kS kH;unfold sB;unfold sN at KR;generalize dZ [] l=R0 at KR kS kH ⊢;generalize iA c=Q0 at KA ⊢;generalize iW l c=C0 at KC ⊢;generalize (l.any fun x=>x.unit == c.unit)=U0 at kH ⊢;obtain⟨A,cc,rfl,-⟩:=hv.open_;have hL:=uZ hlen;clear hv hlen;have KS:=uZ kS;have KH:=uZ kH;have HPL:=uZ hpl;clear kS kH hpl;obtain⟨cu,co,ca,cn⟩:=c
 have HINS:RowKit.Hid (∀(w0 W:World) v (ho:W.ownsRow w0.heap.size 69 4 v l.length (l.flatMap Cm.cells)) (hW:aA w0 W) vb (h1:W.heap[vb]? = some (.cells #[.int .i64 cu,.int .i64 co,.int .i64 ca,.int .i64 cn] 69 (0,0))) (h2:some vb≠v.ownBlock),Calls Tryz.prog 125 #[v,.int .i64 P0,.slice (some ⟨vb,0,none⟩) 1 1] W fun e w'=>∃ A k c,e=.returned (.slice A k c)∧aA w0 w'):=fun w0 W v ho hW vb h1 h2=>(hins w0 W v ho hW vb h1 h2).mono (by
  rintro e w' ⟨v',rfl,ho',hg',-⟩;obtain⟨A',c',rfl⟩:=aJ ho'
  exact⟨A',_,c',rfl,Below.grown hW hg' hW.size (fun k e=>(ho.lt k e).1)⟩)
 clear hins;unfold Cm.agg at KA KC ⊢;dsimp only at KA KC KS ⊢;have HG0:=h_133;by_cases hr:256<l.length∨R0=false
 ·rw[if_pos hr]
  have hd:(decide (l.length≤256) && R0)=false:=by
   rcases hr with h|h
   ·rw[decide_eq_false b_53];rfl
   ·rw[h,Bool.and_false]
  rw[hd] at KR;clear hr hd;go_enter Tryz.func89,Tryz.ntmps89;go_wp2_with fail;refine(KR.out _ HG0.out).mono ?_;rintro e w1 ⟨rfl,g1⟩;have HG1:=h_229;clear g1;dsimp only;go_wp2;go_ret2;exact⟨_,_,_,rfl,HG1.out⟩
 rw[if_neg hr];simp only [not_or,Bool.not_eq_false] at hr;obtain⟨hle,rfl⟩:=hr;rw[decide_eq_true b_53] at KR;have KS1:=uZ (KS.out rfl);obtain rfl:=KH.out rfl;clear KS KH
 cases Q0 with
 | false =>
  rw[if_pos rfl];go_enter Tryz.func89,Tryz.ntmps89;go_wp2_with fail;refine(KR.out _ HG0.out).mono ?_;rintro e w1 ⟨rfl,g1⟩;have HG1:=h_229;have x0:=yQ g1 0 _ rfl;have x1:=yQ g1 1 _ rfl;have x2:=yQ g1 2 _ rfl;have x3:=yQ g1 3 _ rfl;clear g1;dsimp only [Bool.and_true];go_wp2_with fail;refine(KA.out _).mono ?_;rintro e w2 ⟨rfl,g2⟩;have HG2:=uZ (HG1.out.trans g2);clear g2 x0 x1 x2 x3;dsimp only;go_wp2;go_ret2;exact⟨_,_,_,rfl,HG2.out⟩
 | true =>
  rw[if_neg b_52];generalize hRES:(if H0=true then(6:Int) else if C0≠0 then C0 else if 256≤l.length then 8 else 0)=RES;have HRES:=uZ hRES;clear hRES;go_enter Tryz.func89,Tryz.ntmps89;go_wp2_with fail;refine(KR.out _ HG0.out).mono ?_;rintro e w1 ⟨rfl,g1⟩;have HG1:=h_229;have x0:=yQ g1 0 _ rfl;have x1:=yQ g1 1 _ rfl;have x2:=yQ g1 2 _ rfl;have x3:=yQ g1 3 _ rfl;clear g1;dsimp only [Bool.and_true];go_wp2_with fail;refine(KA.out _).mono ?_;rintro e w2 ⟨rfl,g2⟩;have HG2:=uZ (HG1.out.trans g2);replace x0:=uQ g2 x0;replace x1:=uQ g2 x1;replace x2:=uQ g2 x2;replace x3:=uQ g2 x3;clear g2;dsimp only;go_wp2_with fail;refine(KS1.out _ HG2.out).mono ?_;rintro e w3 ⟨rfl,g3⟩;have HG3:=uZ (HG2.out.trans g3);replace x0:=uQ g3 x0;replace x1:=uQ g3 x1;replace x2:=uQ g3 x2;replace x3:=uQ g3 x3;clear g3;dsimp only;go_wp2_with fail;refine(KC.out _ HG3.out).mono ?_;rintro e w4 ⟨rfl,g4⟩;have HG4:=uZ (HG3.out.trans g4);replace x0:=uQ g4 x0;replace x1:=uQ g4 x1;replace x2:=uQ g4 x2;replace x3:=uQ g4 x3;clear g4;dsimp only;have hS:∀ W,aA w4 W→W.cell? ⟨w.heap.size,0,none⟩=some (.int .i64 cu)∧W.cell? ⟨w.heap.size,1,none⟩=some (.int .i64 co)∧W.cell? ⟨w.heap.size,2,none⟩=some (.int .i64 ca)∧W.cell? ⟨w.heap.size,3,none⟩=some (.int .i64 cn)∧aA w4 W:=fun W g=>⟨uQ g x0,uQ g x1,uQ g x2,uQ g x3,g⟩
  have HSS:=uZ hS;clear hS
  cases H0 with
  | true =>
   have HR6:RowKit.Hid (RES=6):=by rw[← HRES.out];exact uZ (if_pos rfl)
   go_wp2;go_ret2;exact aEu HR6.out HG4.out
  | false =>
   by_cases hc:C0=0
   ·subst hc
    have hb2:=h_218;by_cases hbig:256≤l.length
    ·have hbz:(256:Int)≤(l.length:Int):=by omega
     have HR8:RowKit.Hid (RES=8):=by rw[← HRES.out];exact uZ (by simp[hbig])
     go_wp2;go_ret2;exact aEu HR8.out HG4.out
    ·have hbz:decide ((256:Int)≤(l.length:Int))=false:=by rw[decide_eq_false_iff_not];omega
     have HR0:RowKit.Hid (RES=0):=by rw[← HRES.out];exact uZ (by simp[hbig])
     clear HRES hbig KC KS1 KR KA HG0 HG1 HG2 HG3;go_wp2_with fail
     go_region_held3 (fun W=>W.cell? ⟨w.heap.size,0,none⟩=some (.int .i64 cu)∧W.cell? ⟨w.heap.size,1,none⟩=some (.int .i64 co)∧W.cell? ⟨w.heap.size,2,none⟩=some (.int .i64 ca)∧W.cell? ⟨w.heap.size,3,none⟩=some (.int .i64 cn)∧aA w4 W) (refine HSS.out _ b_10) (first|(go_at_call 126;with_reducible refine(KCl.out _ (HG4.out.trans b_20)).mono ?_;rintro e wq ⟨vq,rfl,hoq,gq⟩;obtain⟨Aq,cq,rfl⟩:=aJ hoq;have GQ:=uZ (show aA w4 wq from uY b_20 gq);have HNQ:=uZ (show some wq.heap.size≠(Value.slice Aq l.length cq).ownBlock from fun e=>by have h1:=(hoq.lt _ e.symm).2;omega);have HOQ:=uZ (aCo hoq (show w4.heap.size≤_ from aA.size b_20));(try (have hdr:aA (w4.alloc (.cells #[.int .i64 cu,.int .i64 co,.int .i64 ca,.int .i64 cn] 69)).drew wq:=b_44;have LB:=uZ (aD (uY (uX _).drew hdr) (aO w4 (.cells #[.int .i64 cu,.int .i64 co,.int .i64 ca,.int .i64 cn] 69)));have LN:=uZ (show some w4.heap.size≠(Value.slice Aq l.length cq).ownBlock from fun e=>by have h1:=(hoq.lt _ e.symm).1;simp at h1;omega)));(try (have hdr:aA (w4.alloc (.cells #[.int .i64 cu,.int .i64 co,.int .i64 ca,.int .i64 cn] 69)) wq:=b_44;have LB:=uZ (aD hdr (aO w4 (.cells #[.int .i64 cu,.int .i64 co,.int .i64 ca,.int .i64 cn] 69)));have LN:=uZ (show some w4.heap.size≠(Value.slice Aq l.length cq).ownBlock from fun e=>by have h1:=(hoq.lt _ e.symm).1;simp at h1;omega)));clear hoq gq)|(go_at_call 125;(first|(with_reducible refine(HINS.out w4 _ _ (aZ HOQ.out b_20) (GQ.out.trans b_20) _ (aO wq (.cells #[.int .i64 cu,.int .i64 co,.int .i64 ca,.int .i64 cn] 69)) HNQ.out).mono ?_)|(with_reducible refine(HINS.out w4 _ _ (aZ HOQ.out b_20) (GQ.out.trans b_20) _ LB.out LN.out).mono ?_));rintro e wz ⟨Az,kz,cz,rfl,gz⟩;have GZ:=uZ gz;clear gz))
     all_goals go_wp2
     all_goals go_ret2
     all_goals exact aEu HR0.out (HG4.out.trans GZ.out)
   ·have hb2:(C0 != 0)=true:=by simpa using hc
    have HRC:RowKit.Hid (RES=C0):=by rw[← HRES.out];exact uZ (by simp[hc])
    clear hc;go_wp2;go_ret2;exact aEu HRC.out HG4.out
open Classical in
theorem h_20 {p:Prop} (h:p:=by
 exact uZ ((HG6.out.alloc (.cells #[.int .i64 p0,.int .i64 p1,.int .i64 p2,.int .i64 p3,.int .i64 p4,.int .i64 p5,.int .i64 p6,.string p7,.string p8,.int .i64 p9,.int .i64 p10,.int .i64 p11] 26)).trans gn)
):p:=h
theorem e_12 {p:Prop} (h:p:=by
 cases h51:(o2 == 5)
 ·exact .inl rfl
 ·cases rs
  ·exact .inr (.inl ⟨rfl,rfl⟩)
  ·refine .inr (.inr ⟨rfl,rfl,?_⟩)
   have h52:o2=5:=by simpa using h51
   simpa [h52] using h5
):p:=h
theorem h_68 {p:Prop} (h:p:=by
 exact(show(o2 == 5)=false∨((o2 == 5)=true∧rs=false)∨((o2 == 5)=true∧rs=true∧(ac != 0)=false) from by
  exact e_12)
):p:=h
theorem s_40 {p:Prop} (h:p:=by
 have hk5:(o2 == 5)=false:=by
  have:=HK6.out;rw[this];rfl
 clear h5c;go_wp2_with fail;refine(KI.out _ HG5.out).mono ?_;rintro e wf ⟨rfl,gf⟩;have HG6:=uZ (HG5.out.trans gf);clear xk0 xk3 xk4 xb0 xb1 xb2 xb3 xb4 xb5 xb6 xb7 xb8 xb9 xb10 xb11 xac gf;generalize FO.isSome=fs at HRES ⊢;generalize FO.getD aTh=pp at HRES ⊢;have KCC:=uZ (fun W (hW:aA w W)=>KC.out pp.id W hW);generalize ((cN l).any fun q=>q.2.id == pp.id)=ca at HRES KCC;obtain⟨p0,p1,p2,p3,p4,p5,p6,p7,p8,p9,p10,p11⟩:=pp;dsimp only [Opn.agg] at HRES KCC ⊢;exact nX.g
):p:=h
def zG2:=Unit
theorem zG2.g {p:Prop} (_:zG2) (h:p:=by
 cases fs
 ·skip
  go_wp2;go_ret;exact⟨cA (by rw[← HRES.out];simp[H5.out,HK6.out]),HG6.out.alloc _⟩
 ·cases hp1:(p2 == 1)
  ·have HP1:=uZ (show ¬ p2=1 by simpa using hp1)
   go_wp2;go_ret;exact⟨cA (by rw[← HRES.out];simp[H5.out,HK6.out,HP1.out]),HG6.out.alloc _⟩
  ·have HP1:=uZ (show p2=1 by simpa using hp1)
   cases hp9:(p10 != 0)
   ·have HP9:=uZ (show p10=0 by simpa using hp9)
    go_wp2;go_ret;exact⟨cA b_28,HG6.out.alloc _⟩
   ·have HP9:=uZ (show ¬ p10=0 by simpa using hp9)
    go_wp2_with fail;refine(KCC.out _ (HG6.out.alloc (.cells #[.int .i64 p0,.int .i64 p1,.int .i64 p2,.int .i64 p3,.int .i64 p4,.int .i64 p5,.int .i64 p6,.string p7,.string p8,.int .i64 p9,.int .i64 p10,.int .i64 p11] 26))).mono ?_;rintro e wn ⟨rfl,gn⟩;have HG7:=h_20;clear gn;dsimp only;cases ca
    ·skip
     go_wp2;go_ret;exact⟨cA b_28,HG7.out⟩
    ·skip
     go_wp2;go_ret;exact⟨cA b_28,HG7.out⟩
):p:=h
theorem c_15 {p:Prop} (h:p:=by
 by_cases h5:o2=5∧rs=true∧ac≠0
 ·obtain⟨h51,rfl,h53⟩:=h5
  have hk5:(o2 == 5)=true:=by simpa using h51
  have hac:(ac != 0)=true:=by simpa using h53
  have HK5:=uZ h51;have HAX:=uZ h53;clear h51 h53;go_wp2;go_ret;exact⟨cA (by rw[← HRES.out];simp[H5.out,HK5.out,HAX.out]),HG5.out⟩
 have h5c:=h_68;clear h5;cases hk6:(o2 == 6)
 ·have HK6:=uZ (show ¬ o2=6 by simpa using hk6)
  rcases h5c with hk5|⟨hk5,rfl⟩|⟨hk5,rfl,hac⟩
  ·skip
   have HK5:=uZ (show ¬ o2=5 by simpa using hk5);go_wp2;go_ret;exact⟨cA (by rw[← HRES.out];simp[H5.out,HK1.out,HK5.out,HK6.out]),HG5.out⟩
  ·skip
   go_wp2;go_ret;exact⟨cA (by rw[← HRES.out];simp[H5.out,HK1.out,HK6.out]),HG5.out⟩
  ·skip
   have HK5:=uZ (show ac=0 by simpa using hac);go_wp2;go_ret;exact⟨cA (by rw[← HRES.out];simp[H5.out,HK1.out,HK5.out,HK6.out]),HG5.out⟩
 ·have HK6:=uZ (show o2=6 by simpa using hk6)
  have nX:zG2:=()
  exact s_40
):p:=h
theorem c_115 {p:Prop} (h:p:=by
 go_wp2_with fail;go_meet;exact⟨by rw[HLT.out],(show Aside _ from(uX _).drewN _)⟩
):p:=h
theorem e_21 {p:Prop} (h:p:=by
 all_goals go_wp2_with fail
 all_goals go_meet
 all_goals exact⟨rfl,(show Aside _ from GZ.out)⟩
):p:=h
theorem h_3 {p:Prop} (h:p:=by
 exact(show ∀ nq,(Instr.lookup 79 (.map (some MB)) (.string o8) true).run Tryz.prog ((w.alloc (.cells #[.int .i64 o0,.int .i64 o1,.int .i64 o2,.int .i64 o3,.int .i64 o4,.int .i64 o5,.int .i64 o6,.string o7,.string o8,.int .i64 o9,.int .i64 o10,.int .i64 o11] 26)).drewN nq)=.ok (.tuple #[.int .i64 (O0.getD 0),.bool O0.isSome]) ((w.alloc (.cells #[.int .i64 o0,.int .i64 o1,.int .i64 o2,.int .i64 o3,.int .i64 o4,.int .i64 o5,.int .i64 o6,.string o7,.string o8,.int .i64 o9,.int .i64 o10,.int .i64 o11] 26)).drewN nq) from fun nq=>KL.out _ (HG0.out.drewN nq))
):p:=h
theorem h_15 {p:Prop} (h:p:=by
 exact(show M0=false∨(M0=true∧os=false)∨(M0=true∧os=true∧(og != o3)=false) from by
  cases M0
  ·exact .inl rfl
  ·cases os
   ·exact .inr (.inl ⟨rfl,rfl⟩)
   ·refine .inr (.inr ⟨rfl,rfl,?_⟩)
    simpa using hm)
):p:=h
theorem h_26 {p:Prop} (h:p:=by
 exact uZ ((uX w).alloc (.cells #[.int .i64 o0,.int .i64 o1,.int .i64 o2,.int .i64 o3,.int .i64 o4,.int .i64 o5,.int .i64 o6,.string o7,.string o8,.int .i64 o9,.int .i64 o10,.int .i64 o11] 26))
):p:=h
noncomputable def aFv (l:List Opn) (o:Opn):Int :=
 if 512≤l.length then 8 else if aP o=false then 1 else if mB l o=true then 5
 else if o.kind=1∧(ofC (aW l) o.unit).isSome=true then 6
 else if o.kind=1∧sB (aW l) o.came≠0 then sB (aW l) o.came
 else if cJ o=true∧(dS l o.mark).isSome=true∧(dS l o.mark).getD 0≠o.unit then 19
 else if o.kind=5∧(ofC (aW l) o.unit).isSome=true∧((ofC (aW l) o.unit).getD cm0).acc≠0 then 21
 else if o.kind=6 then(if (iZ l o.unit).isSome=false then 7 else if ((iZ l o.unit).getD aTh).kind=1∧((iZ l o.unit).getD aTh).acc≠0∧((cN l).any fun q=>q.2.id == ((iZ l o.unit).getD aTh).id)=true then 21 else 0)
 else 0
theorem aIa {l:List Opn} (h:gD l) (o:Opn):aFv l o=eX l o:=by
 unfold aFv eX;by_cases h1:512≤l.length
 ·rw[if_pos h1,if_pos h1]
 rw[if_neg h1,if_neg h1];by_cases h2:aP o=false
 ·rw[if_pos h2,if_pos h2]
 rw[if_neg h2,if_neg h2];by_cases h3:mB l o=true
 ·rw[if_pos h3,if_pos h3]
 rw[if_neg h3,if_neg h3];have hf:aP o=true:=by simpa using h2
 by_cases h4:o.kind=1∧(ofC (aW l) o.unit).isSome=true
 ·have:=aBg h hf h4.1 h4.2
  rw[if_pos h4,this,if_pos ⟨h4.1,by decide⟩]
 rw[if_neg h4];by_cases h5:o.kind=1∧sB (aW l) o.came≠0
 ·rw[if_pos h5,if_pos h5]
 rw[if_neg h5,if_neg h5]
 have e6:(cJ o=true∧(dS l o.mark).isSome=true∧(dS l o.mark).getD 0≠o.unit)↔(cJ o && qU l o)=true:=by
  unfold qU
  cases dS l o.mark with
  | none=>simp
  | some u=>simp
 by_cases h6:(cJ o && qU l o)=true
 ·rw[if_pos h6,if_pos (e6.2 h6)]
 rw[if_neg h6,if_neg (fun k=>h6 (e6.1 k))]
 have e7:(o.kind=5∧(ofC (aW l) o.unit).isSome=true∧((ofC (aW l) o.unit).getD cm0).acc≠0)↔(o.kind=5∧(aW l).any (fun x=>x.unit == o.unit && x.acc != 0)=true):=by
  rw[aFq (pH h)]
  cases ofC (aW l) o.unit with
  | none=>simp
  | some u=>simp
 by_cases h7:o.kind=5∧(aW l).any (fun x=>x.unit == o.unit && x.acc != 0)=true
 ·rw[if_pos h7,if_pos (e7.2 h7)]
 rw[if_neg h7,if_neg (fun k=>h7 (e7.1 k))];by_cases h8:o.kind=6
 ·rw[if_pos h8,if_pos h8]
  cases hx:iZ l o.unit with
  | none=>rfl
  | some p =>
   have hp:=(aDl hx).1;have hc:=aIg (tO h) hp;dsimp only [Option.isSome_some,Option.getD_some];rw[if_neg b_52];by_cases hcnd:p.kind=1∧p.acc≠0∧cE l p=true
   ·rw[if_pos hcnd,if_pos ⟨hcnd.1,hcnd.2.1,by rw[hc];exact hcnd.2.2⟩]
   ·rw[if_neg hcnd,if_neg (fun k=>hcnd ⟨k.1,k.2.1,by rw[← hc];exact k.2.2⟩)]
 ·rw[if_neg h8,if_neg h8]
def aWx (WA:World) (R:Option Cm) (s1 s2:Value) (wx:World):Prop:=∃ X,s1=.pointer (some ⟨X,0,none⟩)∧s2=.bool R.isSome∧Aside (wx.cell? ⟨X,1,none⟩=some (.int .i64 (R.getD cm0).acc))∧Aside (aA WA wx)
theorem aVe {WA W:World} {R:Option Cm} {X:Nat} (hX:W.heap[X]? = some (.cells #[.int .i64 0,.int .i64 0,.int .i64 0] 24 (0,0))) (hlo:WA.heap.size≤X) (hG:aA WA W):aWx WA R (.pointer (some ⟨X,0,none⟩)) (.bool R.isSome) (((W.setCell ⟨X,0,none⟩ (.int .i64 (R.getD cm0).office)).setCell ⟨X,1,none⟩ (.int .i64 (R.getD cm0).acc)).setCell ⟨X,2,none⟩ (.int .i64 (R.getD cm0).num)):=by
 have hs:=aXd hX (.int .i64 (R.getD cm0).office) (.int .i64 (R.getD cm0).acc) (.int .i64 (R.getD cm0).num);exact⟨X,rfl,rfl,(show Aside _ from aC hs rfl),(show Aside _ from vL hG hlo _ _ _)⟩
theorem aQj {WA W:World} {R:Option Cm} (hG:aA WA W):aWx WA R (.pointer (some ⟨W.heap.size,0,none⟩)) (.bool R.isSome) (W.alloc (.cells #[.int .i64 (R.getD cm0).office,.int .i64 (R.getD cm0).acc,.int .i64 (R.getD cm0).num] 24)) :=
 ⟨_,rfl,rfl,(show Aside _ from yQ (uX _) 1 _ rfl),(show Aside _ from hG.alloc _)⟩
structure aSo (w:World) (KB:Nat) (E A B C M:Value) (o:Opn) (W:World):Prop where
 k0:W.cell? ⟨KB,0,none⟩=some E
 k3:W.cell? ⟨KB,3,none⟩=some C
 k4:W.cell? ⟨KB,4,none⟩=some M
 b0:W.cell? ⟨w.heap.size,0,none⟩=some (.int .i64 o.id)
 b1:W.cell? ⟨w.heap.size,1,none⟩=some (.int .i64 o.day)
 b2:W.cell? ⟨w.heap.size,2,none⟩=some (.int .i64 o.kind)
 b3:W.cell? ⟨w.heap.size,3,none⟩=some (.int .i64 o.unit)
 b4:W.cell? ⟨w.heap.size,4,none⟩=some (.int .i64 o.parent)
 b5:W.cell? ⟨w.heap.size,5,none⟩=some (.int .i64 o.before)
 b6:W.cell? ⟨w.heap.size,6,none⟩=some (.int .i64 o.level)
 b7:W.cell? ⟨w.heap.size,7,none⟩=some (.string o.title)
 b8:W.cell? ⟨w.heap.size,8,none⟩=some (.string o.mark)
 b9:W.cell? ⟨w.heap.size,9,none⟩=some (.int .i64 o.office)
 b10:W.cell? ⟨w.heap.size,10,none⟩=some (.int .i64 o.acc)
 b11:W.cell? ⟨w.heap.size,11,none⟩=some (.int .i64 o.num)
theorem aSo.grew {w W W':World} {KB:Nat} {E A B C M:Value} {o:Opn} (h:aSo w KB E A B C M o W) (g:aA W W'):aSo w KB E A B C M o W' :=
 ⟨uQ g h.k0,uQ g h.k3,uQ g h.k4,uQ g h.b0,uQ g h.b1,uQ g h.b2,uQ g h.b3,uQ g h.b4,uQ g h.b5,uQ g h.b6,uQ g h.b7,uQ g h.b8,uQ g h.b9,uQ g h.b10,uQ g h.b11⟩
def zG1:=Unit
theorem zG1.g {p:Prop} (_:zG1) (h:p:=by
 cases fs
 ·skip
  go_wp2;go_ret;exact⟨cA (by rw[← HRES.out];simp[H5.out,HM.out,HK6.out]),HG6.out.alloc _⟩
 ·cases hp1:(p2 == 1)
  ·have HP1:=uZ (show ¬ p2=1 by simpa using hp1)
   go_wp2;go_ret;exact⟨cA (by rw[← HRES.out];simp[H5.out,HM.out,HK6.out,HP1.out]),HG6.out.alloc _⟩
  ·have HP1:=uZ (show p2=1 by simpa using hp1)
   cases hp9:(p10 != 0)
   ·have HP9:=uZ (show p10=0 by simpa using hp9)
    go_wp2;go_ret;exact⟨cA b_23,HG6.out.alloc _⟩
   ·have HP9:=uZ (show ¬ p10=0 by simpa using hp9)
    go_wp2_with fail;refine(KCC.out _ (HG6.out.alloc (.cells #[.int .i64 p0,.int .i64 p1,.int .i64 p2,.int .i64 p3,.int .i64 p4,.int .i64 p5,.int .i64 p6,.string p7,.string p8,.int .i64 p9,.int .i64 p10,.int .i64 p11] 26))).mono ?_;rintro e wn ⟨rfl,gn⟩;have HG7:=h_20;clear gn;dsimp only;cases ca
    ·skip
     go_wp2;go_ret;exact⟨cA b_23,HG7.out⟩
    ·skip
     go_wp2;go_ret;exact⟨cA b_23,HG7.out⟩
):p:=h
theorem aSt (l:List Opn) (t:Tr) (o:Opn) (w0 w:World) (KB MB:Nat) (hE:Env w) (hK:fG w0 KB MB l t w) (hA:gD l) (hwf:∀ i (h:i<l.length),WfO l[i]) (hwo:WfO o) (hlen:l.length≤1000000):Calls Tryz.prog 66 #[.pointer (some ⟨KB,0,none⟩),o.agg] w fun e w'=>e=.returned (.int .i64 (eX l o))∧aA w w':=by
 rw[← aIa hA o];obtain⟨A,n,c,B,m,d,E,k,f,C,q,hk,-,hkl,hkt,hkc⟩:=hK.cell;obtain⟨n2,D,hom,-,hon⟩:=hK.owns;have hel:(aW l).length≤1000000:=Nat.le_trans (nD hA).1 b_53;have kF:=fun W (hW:aA w W)=>aRq o W (hE.mono hW)
 have kO:=fun W (hW:aA w W)=>pOf (aW l) o.unit _ W (hkc.mono hW) hel
 have kA:=fun W (hW:aA w W)=>bEj (aW l) o.came _ W (hkc.mono hW) hel
 have kM:=fun W=>aJi o W
 have kI:=fun W (hW:aA w W)=>bCa l o.unit _ KB W (hkl.mono hW) (uQ hW (aC (x:=.slice E l.length k) hk rfl)) hlen
 have kC:=fun id W (hW:aA w W)=>aUe l hwf id _ KB W (hkl.mono hW) (uQ hW (aC (x:=.slice E l.length k) hk rfl)) hlen
 have kL:=fun W (hW:aA w W)=>aLi hon (gT hom hW) hwo.mark
 have hlast:∀ W,aA w W→(l.length=0∧mB l o=false)∨(0<l.length∧∃(b off:Nat) (p:Opn),E=some ⟨b,off,none⟩∧W.cell? ⟨b,off+(l.length-1)*12,none⟩=some (.int .i64 p.id)∧W.cell? ⟨b,off+(l.length-1)*12+1,none⟩=some (.int .i64 p.day)∧mB l o=(decide (o.id≤p.id) || decide (o.day<p.day))):=fun W hW=>by
  obtain⟨A',c',hv,-,-,hr⟩:=hkl.open_;injection hv with e1 e2 e3;subst e1;rcases Nat.eq_zero_or_pos l.length with h0|h0
  ·exact .inl ⟨h0,by rw[List.eq_nil_of_length_eq_zero h0];rfl⟩
  ·obtain⟨b,off,rfl,hb,hc⟩:=hr h0
   obtain⟨q0,q1,-⟩:=hc W hW (l.length-1) b_53;refine .inr ⟨h0,b,off,l[l.length-1],rfl,q0,q1,?_⟩;unfold mB;rw[List.getLast?_eq_getElem?,List.getElem?_eq_getElem b_53]
 have hFA:aSo w KB (.slice E l.length k) (.slice A n c) (.slice B m d) (.slice C (aW l).length q) (.map (some MB)) o (w.alloc (.cells o.cells.toArray 26)):=by
  have g:=(uX w).alloc (.cells o.cells.toArray 26);exact⟨uQ g (aC hk rfl),uQ g (aC hk rfl),uQ g (aC hk rfl),yQ (uX _) 0 _ rfl,yQ (uX _) 1 _ rfl,yQ (uX _) 2 _ rfl,yQ (uX _) 3 _ rfl,yQ (uX _) 4 _ rfl,yQ (uX _) 5 _ rfl,yQ (uX _) 6 _ rfl,yQ (uX _) 7 _ rfl,yQ (uX _) 8 _ rfl,yQ (uX _) 9 _ rfl,yQ (uX _) 10 _ rfl,yQ (uX _) 11 _ rfl⟩
 generalize hRES:aFv l o=RES;unfold aFv at hRES;generalize aP o=F0 at kF hRES;generalize mB l o=L0 at hlast hRES;generalize ofC (aW l) o.unit=R0 at kO hRES;generalize sB (aW l) o.came=AE at kA hRES;generalize cJ o=M0 at kM hRES;generalize dS l o.mark=O0 at kL hRES;generalize iZ l o.unit=FO at kI hRES;generalize (aW l).length=ne at kO kA hFA hkc hk;have HFA:=uZ (fun W (hW:aA (w.alloc (.cells o.cells.toArray 26)) W)=>hFA.grew hW);obtain⟨o0,o1,o2,o3,o4,o5,o6,o7,o8,o9,o10,o11⟩:=o;unfold Opn.agg at kF kM ⊢;unfold Opn.cells at HFA;unfold Opn.came Cm.agg at kA;dsimp only at kF kM kA kO kI kL hlast HFA hRES ⊢;unfold aIu at kO;unfold aOp at kA;unfold aSl at kI;have HRES:=uZ hRES;have KF:=uZ kF;have KO:=uZ kO;have KA:=uZ kA;have KM:=uZ kM;have KI:=uZ kI;have KC:=uZ kC;have KL:=uZ kL;have HLA:=uZ hlast;have HG0:=h_26;have HLEN:=uZ hlen;clear kF kO kA kM kI kC kL hlast hFA hRES hE hK hA hwf hwo hlen hk hkl hkt hkc hom hon hel;by_cases h512:512≤l.length
 ·have hz:(512:Int)≤(l.length:Int):=by omega
  have H5:=uZ h512;clear h512;obtain⟨xk0,xk3,xk4,xb0,xb1,xb2,xb3,xb4,xb5,xb6,xb7,xb8,xb9,xb10,xb11⟩:=HFA.out _ (uX _);have hlook:=h_3;go_enter Tryz.func66,Tryz.ntmps66;go_wp2_with fail;go_quiet (fail);go_wp2;go_ret;exact⟨cA (by rw[← HRES.out];simp[H5.out]),HG0.out.drewN _⟩
 have hz:decide ((512:Int)≤(l.length:Int))=false:=by rw[decide_eq_false_iff_not];omega
 have H5:=uZ h512;clear h512;obtain⟨xk0,xk3,xk4,xb0,xb1,xb2,xb3,xb4,xb5,xb6,xb7,xb8,xb9,xb10,xb11⟩:=HFA.out _ (uX _);have hlook:=h_3;go_enter Tryz.func66,Tryz.ntmps66;go_wp2_with fail;go_quiet (fail);go_wp2_with fail;refine(KF.out _ (HG0.out.drewN _)).mono ?_;rintro e w1 ⟨rfl,g1⟩;have g01:=uY ((uX (w.alloc (.cells #[.int .i64 o0,.int .i64 o1,.int .i64 o2,.int .i64 o3,.int .i64 o4,.int .i64 o5,.int .i64 o6,.string o7,.string o8,.int .i64 o9,.int .i64 o10,.int .i64 o11] 26))).drewN _) g1;have HG1:=uZ (HG0.out.trans g01);have HF1:=uZ (fun W (hW:aA w1 W)=>HFA.out W (g01.trans hW));clear xk0 xk3 xk4 xb0 xb1 xb2 xb3 xb4 xb5 xb6 xb7 xb8 xb9 xb10 xb11 g1 g01 hlook hz
 cases F0 with
 | false =>
  dsimp only;rw[if_neg b_52];go_wp2;go_ret;exact⟨cA (by rw[← HRES.out];simp[H5.out]),HG1.out⟩
 | true =>
  dsimp only;rw[if_pos rfl];obtain⟨xk0,xk3,xk4,xb0,xb1,xb2,xb3,xb4,xb5,xb6,xb7,xb8,xb9,xb10,xb11⟩:=HF1.out _ (uX _);go_wp2_with fail;go_cut [36] from 37 to 66 (fun s36 wx=>s36=.bool L0∧Aside (aA w1 wx))
  case first =>
   have hlst:=HLA.out w1 HG1.out;rcases hlst with ⟨h0,hl0⟩|⟨h0,b,off,p,rfl,q0,q1,hl0⟩
   ·have hposz:decide ((0:Int)<(l.length:Int))=false:=by rw[decide_eq_false_iff_not];omega
    have hposn:decide (0<l.length)=false:=by rw[decide_eq_false_iff_not];omega
    have HL0:=uZ hl0;clear h0 hl0;go_quiet (fail);go_wp2_with fail;go_meet;exact⟨by rw[HL0.out],(show Aside _ from(uX _).drewN _)⟩
   ·have hposz:(0:Int)<(l.length:Int):=by omega
    have hwr:IntKind.i64.wrap ((l.length:Int)-1)=(l.length:Int)-1:=IntWalk.i64_in _ (by have:=HLEN.out;omega);have HL0:=uZ hl0;obtain⟨pid,pday,pr⟩:∃ a b,p.id=a∧p.day=b:=⟨_,_,rfl,rfl⟩
    rw[pr.1] at q0 HL0;rw[pr.2] at q1 HL0;clear pr hl0;by_cases hi1:o0≤pid
    ·have HLT:RowKit.Hid (L0=true):=by
      show L0=true;rw[HL0.out,decide_eq_true hi1];rfl
     go_quiet (fail);exact c_115
    ·have hi1f:decide (o0≤pid)=false:=by simpa using hi1
     have HI1:=uZ hi1f;clear hi1;by_cases hi2:o1<pday
     ·have HLT:RowKit.Hid (L0=true):=by
       show L0=true;rw[HL0.out,HI1.out,decide_eq_true hi2];rfl
      go_quiet (fail);exact c_115
     ·have hi2f:decide (o1<pday)=false:=by simpa using hi2
      have HLT:RowKit.Hid (L0=false):=by
       show L0=false;rw[HL0.out,HI1.out,hi2f];rfl
      clear hi2;go_quiet (fail);exact c_115
  case rest =>
   obtain⟨rfl,GC⟩:=hcut;have HG2:=uZ (HG1.out.trans GC.out);have HF2:=uZ (fun W (hW:aA wc W)=>HF1.out W (GC.out.trans hW));clear xk0 xk3 xk4 xb0 xb1 xb2 xb3 xb4 xb5 xb6 xb7 xb8 xb9 xb10 xb11 GC HLA
   cases L0 with
   | true =>
    go_wp2;go_ret;exact⟨cA (by rw[← HRES.out];simp[H5.out]),HG2.out⟩
   | false =>
    obtain⟨xk0,xk3,xk4,xb0,xb1,xb2,xb3,xb4,xb5,xb6,xb7,xb8,xb9,xb10,xb11⟩:=HF2.out _ (uX _);go_wp2_with fail;generalize hwB:wc=wB at *;have HSS:=uZ (fun W (g:aA wB W)=>(⟨uQ g xk3,uQ g xb3,g⟩:W.cell? ⟨KB,3,none⟩=some (.slice C ne q)∧W.cell? ⟨w.heap.size,3,none⟩=some (.int .i64 o3)∧aA wB W));go_cut [8,9] from 67 to 76 (fun s8 s9 wx=>aWx wB R0 s8 s9 wx)
    case first =>
     go_region_held3 (fun W=>W.cell? ⟨KB,3,none⟩=some (.slice C ne q)∧W.cell? ⟨w.heap.size,3,none⟩=some (.int .i64 o3)∧aA wB W) (refine HSS.out _ b_3) (first|(go_at_call 39;with_reducible refine(KO.out _ (HG2.out.trans b_20)).mono ?_;rintro e wz ⟨rfl,gq⟩;have GZ:=uZ (show aA wB wz from uY b_20 gq);(try (have hdr:aA (wB.alloc (.cells [.int .i64 0,.int .i64 0,.int .i64 0].toArray 24)).drew wz:=b_44;have BX:=uZ (aD (uY (uX _).drew hdr) (aO wB (.cells [.int .i64 0,.int .i64 0,.int .i64 0].toArray 24)))));(try (have hdr:aA (wB.alloc (.cells [.int .i64 0,.int .i64 0,.int .i64 0].toArray 24)) wz:=b_44;have BX:=uZ (aD hdr (aO wB (.cells [.int .i64 0,.int .i64 0,.int .i64 0].toArray 24)))));(try (have q0:wz.cell? ⟨wB.heap.size,0,none⟩=some (.int .i64 0):=aC BX.out rfl;have q1:wz.cell? ⟨wB.heap.size,1,none⟩=some (.int .i64 0):=aC BX.out rfl;have q2:wz.cell? ⟨wB.heap.size,2,none⟩=some (.int .i64 0):=aC BX.out rfl;have z0:wz.frozen? ⟨wB.heap.size,0,none⟩=false:=aS BX.out;have z1:wz.frozen? ⟨wB.heap.size,1,none⟩=false:=aS BX.out;have z2:wz.frozen? ⟨wB.heap.size,2,none⟩=false:=aS BX.out));clear gq))
     all_goals go_wp2_with fail
     all_goals go_meet
     all_goals with_reducible first|exact aQj GZ.out|exact aVe BX.out (Nat.le_refl _) GZ.out
    case rest =>
     obtain⟨X,rfl,rfl,hacc,GC⟩:=hcut;have HG3:=uZ (HG2.out.trans GC.out);have HF3:=uZ (fun W (hW:aA wc W)=>HF2.out W (GC.out.trans hW));have HAC:=uZ (fun W (hW:aA wc W)=>uQ hW hacc.out);clear xk0 xk3 xk4 xb0 xb1 xb2 xb3 xb4 xb5 xb6 xb7 xb8 xb9 xb10 xb11 GC hacc HSS;generalize R0.isSome=rs at HRES ⊢;generalize (R0.getD cm0).acc=ac at HRES HAC;generalize hw3:wc=w3 at *;obtain⟨xk0,xk3,xk4,xb0,xb1,xb2,xb3,xb4,xb5,xb6,xb7,xb8,xb9,xb10,xb11⟩:=HF3.out _ (uX _);cases hk1:(o2 == 1)
     ·have HK1:=uZ (show ¬ o2=1 by simpa using hk1)
      clear hw3;clear xk0 xk3 xk4 xb0 xb1 xb2 xb3 xb4 xb5 xb6 xb7 xb8 xb9 xb10 xb11;obtain⟨xk0,xk3,xk4,xb0,xb1,xb2,xb3,xb4,xb5,xb6,xb7,xb8,xb9,xb10,xb11⟩:=HF3.out _ (uX _);have xac:=HAC.out _ (uX _);go_wp2_with fail;refine(KM.out _).mono ?_;rintro e wm ⟨rfl,gm⟩;have HG5:=uZ (HG3.out.trans gm);have HF5:=uZ (fun W (hW:aA wm W)=>HF3.out W (gm.trans hW));have HAC5:=uZ (fun W (hW:aA wm W)=>HAC.out W (gm.trans hW));clear xk0 xk3 xk4 xb0 xb1 xb2 xb3 xb4 xb5 xb6 xb7 xb8 xb9 xb10 xb11 xac gm;obtain⟨xk0,xk3,xk4,xb0,xb1,xb2,xb3,xb4,xb5,xb6,xb7,xb8,xb9,xb10,xb11⟩:=HF5.out _ (uX _);have xac:=HAC5.out _ (uX _);dsimp only;generalize O0.isSome=os at HRES ⊢;generalize O0.getD 0=og at HRES ⊢;by_cases hm:M0=true∧os=true∧og≠o3
      ·obtain⟨rfl,rfl,hm3⟩:=hm
       have hm3b:(og != o3)=true:=by simpa using hm3
       have HM3:=uZ hm3;clear hm3;go_wp2;go_ret;exact⟨cA (by rw[← HRES.out];simp[H5.out,HK1.out,HM3.out]),HG5.out⟩
      have hmc:=h_15;clear hm;rcases hmc with rfl|⟨rfl,rfl⟩|⟨rfl,rfl,hm3⟩
      ·skip
       exact c_15
      ·skip
       exact c_15
      ·skip
       have HM:=uZ (show og=o3 by simpa using hm3);by_cases h5:o2=5∧rs=true∧ac≠0
       ·obtain⟨h51,rfl,h53⟩:=h5
        have hk5:(o2 == 5)=true:=by simpa using h51
        have hac:(ac != 0)=true:=by simpa using h53
        have HK5:=uZ h51;have HAX:=uZ h53;clear h51 h53;go_wp2;go_ret;exact⟨cA (by rw[← HRES.out];simp[H5.out,HM.out,HK5.out,HAX.out]),HG5.out⟩
       have h5c:=h_68;clear h5;cases hk6:(o2 == 6)
       ·have HK6:=uZ (show ¬ o2=6 by simpa using hk6)
        rcases h5c with hk5|⟨hk5,rfl⟩|⟨hk5,rfl,hac⟩
        ·skip
         have HK5:=uZ (show ¬ o2=5 by simpa using hk5);go_wp2;go_ret;exact⟨cA (by rw[← HRES.out];simp[H5.out,HK1.out,HM.out,HK5.out,HK6.out]),HG5.out⟩
        ·skip
         go_wp2;go_ret;exact⟨cA (by rw[← HRES.out];simp[H5.out,HK1.out,HM.out,HK6.out]),HG5.out⟩
        ·skip
         have HK5:=uZ (show ac=0 by simpa using hac);go_wp2;go_ret;exact⟨cA (by rw[← HRES.out];simp[H5.out,HK1.out,HM.out,HK5.out,HK6.out]),HG5.out⟩
       ·have HK6:=uZ (show o2=6 by simpa using hk6)
        have nX:zG1:=()
        exact s_40
     ·have HK1:=uZ (show o2=1 by simpa using hk1)
      cases rs with
      | true =>
       go_wp2;go_ret;exact⟨cA (by rw[← HRES.out];simp[H5.out,HK1.out]),HG3.out⟩
      | false =>
       go_wp2_with fail;have HSS:=uZ (fun W (g:aA w3 W)=>(⟨uQ g xk3,uQ g xb3,uQ g xb9,uQ g xb10,uQ g xb11,g⟩:W.cell? ⟨KB,3,none⟩=some (.slice C ne q)∧W.cell? ⟨w.heap.size,3,none⟩=some (.int .i64 o3)∧W.cell? ⟨w.heap.size,9,none⟩=some (.int .i64 o9)∧W.cell? ⟨w.heap.size,10,none⟩=some (.int .i64 o10)∧W.cell? ⟨w.heap.size,11,none⟩=some (.int .i64 o11)∧aA w3 W));go_cut [10,11] from 88 to 100 (fun s10 s11 wx=>s11=.int .i64 AE∧Aside (aA w3 wx))
       case first =>
        go_region_held3 (fun W=>W.cell? ⟨KB,3,none⟩=some (.slice C ne q)∧W.cell? ⟨w.heap.size,3,none⟩=some (.int .i64 o3)∧W.cell? ⟨w.heap.size,9,none⟩=some (.int .i64 o9)∧W.cell? ⟨w.heap.size,10,none⟩=some (.int .i64 o10)∧W.cell? ⟨w.heap.size,11,none⟩=some (.int .i64 o11)∧aA w3 W) (refine HSS.out _ b_13) (first|(go_at_call 89;with_reducible refine(KA.out _ (HG3.out.trans b_20)).mono ?_;rintro e wz ⟨Az,kz,cz,rfl,gq⟩;have GZ:=uZ (show aA w3 wz from uY b_20 gq);clear gq))
        exact e_21
       case rest =>
        obtain⟨rfl,GC⟩:=hcut;have HG4:=uZ (HG3.out.trans GC.out);have HF4:=uZ (fun W (hW:aA wc W)=>HF3.out W (GC.out.trans hW));have HAC4:=uZ (fun W (hW:aA wc W)=>HAC.out W (GC.out.trans hW));clear xk0 xk3 xk4 xb0 xb1 xb2 xb3 xb4 xb5 xb6 xb7 xb8 xb9 xb10 xb11 GC HSS;by_cases hae:AE=0
        ·have HAE:=uZ hae
         have haz:(AE != 0)=false:=by rw[hae];rfl
         have hk5:(o2 == 5)=false:=by
          have:=HK1.out;rw[this];rfl
         have hk6:(o2 == 6)=false:=by
          have:=HK1.out;rw[this];rfl
         clear hae;obtain⟨xk0,xk3,xk4,xb0,xb1,xb2,xb3,xb4,xb5,xb6,xb7,xb8,xb9,xb10,xb11⟩:=HF4.out _ (uX _);have xac:=HAC4.out _ (uX _);go_wp2_with fail;refine(KM.out _).mono ?_;rintro e wm ⟨rfl,gm⟩;have HG5:=uZ (HG4.out.trans gm);have HF5:=uZ (fun W (hW:aA wm W)=>HF4.out W (gm.trans hW));have HAC5:=uZ (fun W (hW:aA wm W)=>HAC4.out W (gm.trans hW));clear xk0 xk3 xk4 xb0 xb1 xb2 xb3 xb4 xb5 xb6 xb7 xb8 xb9 xb10 xb11 xac gm;obtain⟨xk0,xk3,xk4,xb0,xb1,xb2,xb3,xb4,xb5,xb6,xb7,xb8,xb9,xb10,xb11⟩:=HF5.out _ (uX _);have xac:=HAC5.out _ (uX _);dsimp only;generalize O0.isSome=os at HRES ⊢;generalize O0.getD 0=og at HRES ⊢;by_cases hm:M0=true∧os=true∧og≠o3
         ·obtain⟨rfl,rfl,hm3⟩:=hm
          have hm3b:(og != o3)=true:=by simpa using hm3
          have HM3:=uZ hm3;clear hm3;go_wp2;go_ret;exact⟨cA (by rw[← HRES.out];simp[H5.out,HK1.out,HAE.out,HM3.out]),HG5.out⟩
         have hmc:=h_15;clear hm;rcases hmc with rfl|⟨rfl,rfl⟩|⟨rfl,rfl,hm3⟩
         ·skip
          go_wp2;go_ret;exact⟨cA (by rw[← HRES.out];simp[H5.out,HK1.out,HAE.out]),HG5.out⟩
         ·skip
          go_wp2;go_ret;exact⟨cA (by rw[← HRES.out];simp[H5.out,HK1.out,HAE.out]),HG5.out⟩
         ·skip
          have HM:=uZ (show og=o3 by simpa using hm3);go_wp2;go_ret;exact⟨cA (by rw[← HRES.out];simp[H5.out,HK1.out,HAE.out,HM.out]),HG5.out⟩
        ·have HAE:=uZ hae
         have haz:(AE != 0)=true:=by simpa using hae
         clear hae;go_wp2;go_ret;exact⟨cA (by rw[← HRES.out];simp[H5.out,HK1.out,HAE.out]),HG4.out⟩
end Go.Proofs.YtdochkemaiokfaaGreat

namespace Go.Proofs.YtdochkemaiokfaaGreat
open Go.RowKit Go.Maps
structure eU (w0:World) (KB MB:Nat) (E:Option Addr) (e1 e2:Nat) (A:Option Addr) (a1 a2:Nat) (B:Option Addr) (b1 b2:Nat) (C:Option Addr) (c1 c2:Nat) (W:World):Prop where
 g:aA w0 W
 kb:w0.heap.size≤KB
 mb:w0.heap.size≤MB
 cell:W.heap[KB]? = some (.cells #[.slice E e1 e2,.slice A a1 a2,.slice B b1 b2,.slice C c1 c2,.map (some MB)] 81 (0,0))
section
variable {w0 W W':World} {KB MB:Nat} {E A B C E' A' B' C':Option Addr} {e1 e2 a1 a2 b1 b2 c1 c2 f1 f2 g1 g2 h1 h2:Nat}
theorem eU.nolit (h:eU w0 KB MB E e1 e2 A a1 a2 B b1 b2 C c1 c2 W):jV W KB:=cH h.cell b_54
theorem eU.grew (h:eU w0 KB MB E e1 e2 A a1 a2 B b1 b2 C c1 c2 W) (g:aA W W'):eU w0 KB MB E e1 e2 A a1 a2 B b1 b2 C c1 c2 W':=⟨h.g.trans g,h.kb,h.mb,aD g h.cell⟩
theorem eU.setL (h:eU w0 KB MB E e1 e2 A a1 a2 B b1 b2 C c1 c2 W):eU w0 KB MB E' f1 f2 A a1 a2 B b1 b2 C c1 c2 (W.setCell ⟨KB,0,none⟩ (.slice E' f1 f2)) :=
 ⟨h.g.setCell (p:=⟨KB,0,none⟩) h.kb _,h.kb,h.mb,by simpa using heap_setCell_same W KB 0 _ _ (.slice E' f1 f2) h.cell⟩
theorem eU.setA (h:eU w0 KB MB E e1 e2 A a1 a2 B b1 b2 C c1 c2 W):eU w0 KB MB E e1 e2 A' f1 f2 B b1 b2 C c1 c2 (W.setCell ⟨KB,1,none⟩ (.slice A' f1 f2)) :=
 ⟨h.g.setCell (p:=⟨KB,1,none⟩) h.kb _,h.kb,h.mb,by simpa using heap_setCell_same W KB 1 _ _ (.slice A' f1 f2) h.cell⟩
theorem eU.setB (h:eU w0 KB MB E e1 e2 A a1 a2 B b1 b2 C c1 c2 W):eU w0 KB MB E e1 e2 A a1 a2 B' f1 f2 C c1 c2 (W.setCell ⟨KB,2,none⟩ (.slice B' f1 f2)) :=
 ⟨h.g.setCell (p:=⟨KB,2,none⟩) h.kb _,h.kb,h.mb,by simpa using heap_setCell_same W KB 2 _ _ (.slice B' f1 f2) h.cell⟩
theorem eU.setC (h:eU w0 KB MB E e1 e2 A a1 a2 B b1 b2 C c1 c2 W):eU w0 KB MB E e1 e2 A a1 a2 B b1 b2 C' f1 f2 (W.setCell ⟨KB,3,none⟩ (.slice C' f1 f2)) :=
 ⟨h.g.setCell (p:=⟨KB,3,none⟩) h.kb _,h.kb,h.mb,by simpa using heap_setCell_same W KB 3 _ _ (.slice C' f1 f2) h.cell⟩
theorem eU.turn {X:Nat} (h:eU w0 KB MB E e1 e2 A a1 a2 B b1 b2 C c1 c2 W) (hg:W.grownBy W' (some X)) (hX:w0.heap.size≤X) (hne:KB≠X):eU w0 KB MB E e1 e2 A a1 a2 B b1 b2 C c1 c2 W' :=
 ⟨Below.grown h.g hg h.g.size (fun k e=>by cases e;exact hX),h.kb,h.mb,bY hg h.cell (fun r e k=>by cases e;exact hne k.symm)⟩
theorem eU.facts (h:eU w0 KB MB E e1 e2 A a1 a2 B b1 b2 C c1 c2 W):W.cell? ⟨KB,0,none⟩=some (.slice E e1 e2)∧W.cell? ⟨KB,1,none⟩=some (.slice A a1 a2)∧W.cell? ⟨KB,2,none⟩=some (.slice B b1 b2)∧W.cell? ⟨KB,3,none⟩=some (.slice C c1 c2)∧W.cell? ⟨KB,4,none⟩=some (.map (some MB))∧W.frozen? ⟨KB,0,none⟩=false∧W.frozen? ⟨KB,1,none⟩=false∧W.frozen? ⟨KB,2,none⟩=false∧W.frozen? ⟨KB,3,none⟩=false :=
 ⟨aC h.cell rfl,aC h.cell rfl,aC h.cell rfl,aC h.cell rfl,aC h.cell rfl,aS h.cell,aS h.cell,aS h.cell,aS h.cell⟩
end
structure pP (KB MB:Nat) (l:List Opn) (t:Tr) (lc:List Cm) (lo:List Opn) (lv rv bv cv:Value) (W:World):Prop where
 l:SlO W lv l
 t:dF W rv bv t
 c:SlC W cv lc
 o:∃ n D,W.ownsMap Tryz.prog 9 (plainElem Tryz.prog 3) MB n D∧n≤lo.length∧aSn lo D
section
variable {W W':World} {KB MB:Nat} {l lo:List Opn} {t:Tr} {lc:List Cm} {lv rv bv cv:Value}
theorem pP.grew (h:pP KB MB l t lc lo lv rv bv cv W) (g:aA W W'):pP KB MB l t lc lo lv rv bv cv W':=by
 obtain⟨n,D,h1,h2⟩:=h.o;exact⟨h.l.mono g,h.t.mono g,h.c.mono g,n,D,gT h1 g,h2⟩
theorem pP.set {X o:Nat} {v:Value} (h:pP KB MB l t lc lo lv rv bv cv W) (hX:jV W X) (hne:MB≠X):pP KB MB l t lc lo lv rv bv cv (W.setCell ⟨X,o,none⟩ v):=by
 obtain⟨n,D,h1,h2⟩:=h.o;exact⟨h.l.turn (dB.set hX _ _),h.t.turn (dB.set hX _ _),h.c.turn (dB.set hX _ _),n,D,h1.setCell (a:=⟨X,o,none⟩) hne _,h2⟩
end
theorem fG.open_ {w0 W:World} {KB MB:Nat} {l:List Opn} {t:Tr} (h:fG w0 KB MB l t W):∃ E k A n c B m d C q,eU w0 KB MB E l.length k A n c B m d C (aW l).length q W∧pP KB MB l t (aW l) l (.slice E l.length k) (.slice A n c) (.slice B m d) (.slice C (aW l).length q) W:=by
 obtain⟨A,n,c,B,m,d,E,k,f,C,q,h1,-,h3,h4,h5⟩:=h.cell;exact⟨E,k,A,n,c,B,m,d,C,q,⟨h.g,h.kb,h.mb,h1⟩,h3,h4,h5,h.owns⟩
theorem fG.shut {w0 W:World} {KB MB:Nat} {l:List Opn} {t:Tr} {E A B C:Option Addr} {k n c m d q:Nat} (h:eU w0 KB MB E l.length k A n c B m d C (aW l).length q W) (h2:pP KB MB l t (aW l) l (.slice E l.length k) (.slice A n c) (.slice B m d) (.slice C (aW l).length q) W):fG w0 KB MB l t W :=
 ⟨h.g,h.kb,h.mb,⟨A,n,c,B,m,d,E,k,0,C,q,h.cell,rfl,h2.l,h2.t,h2.c⟩,h2.o⟩
theorem aFm {w0 W:World} {KB MB:Nat} {l:List Opn} {t:Tr} (h:fG w0 KB MB l t W):MB≠KB:=by
 obtain⟨A,n,c,B,m,d,E,k,f,C,q,h1,-⟩:=h.cell;obtain⟨n2,D,⟨es,clock,h2,-⟩,-⟩:=h.owns;intro e;rw[e,h1] at h2;cases h2
end Go.Proofs.YtdochkemaiokfaaGreat