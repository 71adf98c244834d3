/- Lemmas on what the functions of the program and of the library compute: LBu, Rf9, PlainRm, Rf10, Rf11. The conditions stand at each. -/
import Derived.Test.YtdochkemaiokfaaGreatQ29
import Derived.Test.YtdochkemaiokfaaGreatQ36
import Derived.Test.YtdochkemaiokfaaGreatQ33
import Derived.Test.YtdochkemaiokfaaGreatQ22
import Derived.Test.YtdochkemaiokfaaGreatQ11
import Derived.Test.YtdochkemaiokfaaGreatQ16
import Derived.Deep.CutRange
import Derived.Deep.RegionHeld3
import Derived.Test.YtdochkemaiokfaaGreatQ1
import Derived.Test.YtdochkemaiokfaaGreatQ23
import Derived.Test.YtdochkemaiokfaaGreatQ9
import Derived.Test.YtdochkemaiokfaaGreatQ15
set_option maxHeartbeats 16000000
set_option maxRecDepth 100000
set_option linter.all false
namespace Go.Proofs.YtdochkemaiokfaaGreat
open Go.RowKit
theorem aKt {W:World} {X j k:Nat} {ty:TypeId} {v x c0 c1:Value} {cs:List Value} (hX:W.heap[X]? = some (.cells #[c0,c1] ty (0,0))) (h0:∃ A n c,c0=.slice A n c) (h1:∃ A n c,c1=.slice A n c) (h:Rd W k v cs) (hk:0<k) (hi:∀ c,cs[0]? = some c→∀ A n m,c≠.slice A n m):Rd (W.setCell ⟨X,j,none⟩ x) k v cs:=by
 obtain⟨A0,n0,m0,rfl⟩:=h0;obtain⟨A1,n1,m1,rfl⟩:=h1;obtain⟨A,n,c,rfl,hl,hn,hc,h0⟩:=h;refine⟨A,n,c,rfl,hl,hn,hc,fun hpos=>?_⟩;obtain⟨b,off,rfl,hb,hcell⟩:=h0 hpos
 have hne:b≠X:=by
  intro e;subst e;have hlen:=h_174;have h1:=hcell 0 cs[0] (by rw[List.getElem?_eq_getElem hlen]);have h2:=hi cs[0] (by rw[List.getElem?_eq_getElem hlen]);simp[World.cell?,hX] at h1
  match off,h1 with
  | 0,h1=>simp at h1;exact h2 _ _ _ h1.symm
  | 1,h1=>simp at h1;exact h2 _ _ _ h1.symm
  | n+2,h1=>simp at h1
 refine⟨b,off,rfl,by simpa using hb,fun j u hu=>?_⟩;rw[uV _ _ _ _ (aBf hne.symm)];exact hcell j u hu
theorem aHw (l:List Int):∀ c,(l.flatMap eE)[0]? = some c→∀ A n m,c≠.slice A n m:=fun c hc=>by
 cases l with
 | nil=>cases hc
 | cons a r =>
  have:some (Value.int .i64 a)=some c:=hc;injection this with this;rw[← this];intro A n m e;cases e
theorem aRl (cs:List BrC):∀ c,(cs.flatMap BrC.cells)[0]? = some c→∀ A n m,c≠.slice A n m:=fun c hc=>by
 cases cs with
 | nil=>cases hc
 | cons a r =>
  have:some (Value.int .i64 a.id)=some c:=hc;injection this with this;rw[← this];intro A n m e;cases e
theorem vZ {W:World} {X j:Nat} {ty:TypeId} {v x c0 c1:Value} {l:List Int} (hX:W.heap[X]? = some (.cells #[c0,c1] ty (0,0))) (h0:∃ A n c,c0=.slice A n c) (h1:∃ A n c,c1=.slice A n c) (h:SlI W v l):SlI (W.setCell ⟨X,j,none⟩ x) v l:=aKt hX h0 h1 h b_53 (aHw l)
theorem dF.setS {W:World} {X j:Nat} {ty:TypeId} {rv bv x c0 c1:Value} {t:Tr} (hX:W.heap[X]? = some (.cells #[c0,c1] ty (0,0))) (h0:∃ A n c,c0=.slice A n c) (h1:∃ A n c,c1=.slice A n c) (h:dF W rv bv t):dF (W.setCell ⟨X,j,none⟩ x) rv bv t:=by
 obtain⟨k1,cs,k2,k3,k4⟩:=h;exact⟨vZ hX h0 h1 k1,cs,aKt hX h0 h1 k2 b_53 (aRl cs),k3,fun i hi hi'=>⟨(k4 i hi hi').1,vZ hX h0 h1 (k4 i hi hi').2⟩⟩
theorem yW {W:World} {rv bv:Value} {t:Tr} (h:dF W rv bv t):(∃ A n c,rv=.slice A n c)∧∃ A n c,bv=.slice A n c:=by
 obtain⟨A,c,e,-⟩:=SlI.open_ h.1;obtain⟨A',c',e',-⟩:=bQ.open_ h.2;exact⟨⟨A,_,c,e⟩,A',_,c',e'⟩
structure aEk (WT:World) (t:Tr) (all:List Int) (va:Value) (B k:Nat) (ru bu:Value) (wr:World):Prop where
 box:wr.heap[B]? = some (.cells #[ru,bu] 43 (0,0))
 tree:dF wr ru bu (aZg t (all.take k))
 list:SlI wr va all
 grew:aA WT wr
 lo:WT.heap.size≤B
theorem aEk.step {WT wr w8:World} {t:Tr} {all:List Int} {va ru bu r8 b8:Value} {B k:Nat} (h:aEk WT t all va B k ru bu wr) (g:aA wr w8) (ht:dF w8 r8 b8 (aZg t (all.take (k+1)))):aEk WT t all va B (k+1) r8 b8 ((w8.setCell ⟨B,0,none⟩ r8).setCell ⟨B,1,none⟩ b8):=by
 have hb:=uK g h.box;obtain⟨s0,s1⟩:=yW h.tree;obtain⟨q0,q1⟩:=yW ht;have hb1:=heap_setCell_same w8 B 0 #[ru,bu] 43 r8 hb;have hb2:(w8.setCell ⟨B,0,none⟩ r8).heap[B]? = some (.cells #[r8,bu] 43 (0,0)):=by simpa using hb1
 have hb3:=heap_setCell_same (w8.setCell ⟨B,0,none⟩ r8) B 1 #[r8,bu] 43 b8 hb2;exact⟨by simpa using hb3,(ht.setS hb s0 s1).setS hb2 q0 s1,vZ hb2 q0 s1 (vZ hb s0 s1 (h.list.mono g)),((h.grew.trans g).setCell h.lo _).setCell h.lo _,h.lo⟩
theorem h_8 {p:Prop} (h:p:=by
 exact uZ ((((uX w).alloc (.cells [.slice Ar t.roots.length cr,.slice Ab t.brs.length cb].toArray 43)).alloc (.cells [.int .i64 i,.int .i64 d,.int .i64 k,.int .i64 u,.int .i64 p,.int .i64 b,.int .i64 l,.string tt,.string m,.int .i64 x9,.int .i64 x10,.int .i64 x11].toArray 26)).alloc (.cells [.slice none 0 0,.slice none 0 0].toArray 43))
):p:=h
theorem h_99 {p:Prop} (h:p:=by
 exact uZ (GA.out.trans (g1.alloc (.cells #[.int .i64 0,.int .i64 0,.int .i64 0,.string ⟨#[]⟩,.string ⟨#[]⟩] 64)))
):p:=h
theorem h_128 {p:Prop} (h:p:=by
 exact uZ (g1.alloc (.cells #[.int .i64 fi,.int .i64 fp,.int .i64 fl,.string ft,.string fm] 64))
):p:=h
theorem h_137 {p:Prop} (h:p:=by
 exact uZ (fun W g=>HBX.out (.slice Ar t.roots.length cr) (.slice Ab t.brs.length cb) W g)
):p:=h
theorem h_160 {p:Prop} (h:p:=by
 exact uZ (fun W (hW:aA w W)=>(⟨hr.mono hW,hv.mono hW⟩:dF W rv bv t))
):p:=h
theorem h_176 {p:Prop} (h:p:=by
 exact fun W (hW:aA w W)=>aR t.brs o.unit rv bv W (hv.mono hW)
):p:=h
theorem h_226 {p:Prop} (h:p:=by
 exact uZ (GA.out.trans G2.out)
):p:=h
theorem h_235 {p:Prop} (h:p:=by
 exact uZ (cD w o)
):p:=h
theorem s_1 {p:Prop} (h:p:=by
 go_wp2_with fail;generalize ((w.alloc (.cells [.slice Ar t.roots.length cr,.slice Ab t.brs.length cb].toArray 43)).alloc (.cells [.int .i64 i,.int .i64 d,.int .i64 k,.int .i64 u,.int .i64 p,.int .i64 b,.int .i64 l,.string tt,.string m,.int .i64 x9,.int .i64 x10,.int .i64 x11].toArray 26)).alloc (.cells [.slice none 0 0,.slice none 0 0].toArray 43)=WA at GA HB ⊢;exact nX.g
):p:=h
theorem s_4 {p:Prop} (h:p:=by
 have HBX:=h_235;obtain⟨Ar,cr,rfl,-⟩:=SlI.open_ hr;obtain⟨Ab,cb,rfl,-⟩:=bQ.open_ hv;clear hr hv hf hrl;obtain⟨i,d,k,u,p,b,l,tt,m,x9,x10,x11⟩:=o;exact nX.g
):p:=h
theorem s_7 {p:Prop} (h:p:=by
 obtain⟨⟨r0,b0,a0,a1,a2,a3,a4,a5,a6,a7,a8,a9,a10,a11⟩,hR⟩:=HB.out _ G1.out;obtain⟨q0,q1,z0,z1⟩:=cL hR;have HR:=uZ hR;clear hR;exact nX.g
):p:=h
theorem s_10 {p:Prop} (h:p:=by
 obtain⟨⟨r0,b0,a0,a1,a2,a3,a4,a5,a6,a7,a8,a9,a10,a11⟩,hR⟩:=HB.out _ G2.out;obtain⟨q0,q1,z0,z1⟩:=cL hR;have HR:=uZ hR;clear hR;exact nX.g
):p:=h
theorem s_49 {p:Prop} (h:p:=by
 go_wp2_with fail;obtain⟨p0,p1⟩:=aK (v0:=(.slice Ar t.roots.length cr)) (v1:=(.slice Ab t.brs.length cb)) q0 q1;exact nX.g
):p:=h
def zHx:=Unit
theorem zHx.g {p:Prop} (_:zHx) (h:p:=by
 exact nzHx.g
):p:=h
theorem s_16 {p:Prop} (h:p:=by
 refine(KF.out _ GA.out).mono ?_;rintro e w1 ⟨rfl,g1⟩;have HG1:=h_99;obtain⟨⟨r0,b0,a0,a1,a2,a3,a4,a5,a6,a7,a8,a9,a10,a11⟩,hR⟩:=HB.out _ (g1.alloc (.cells #[.int .i64 0,.int .i64 0,.int .i64 0,.string ⟨#[]⟩,.string ⟨#[]⟩] 64));obtain⟨q0,q1,z0,z1⟩:=cL hR;have HR:=uZ hR;clear hR;clear g1;dsimp only;have nzHx:=nX;have nX:zHx:=()
 exact s_49
):p:=h
theorem s_17 {p:Prop} (h:p:=by
 have HTT:=h_160;have kF:=h_176;rw[ho] at kF;unfold aY at kF;dsimp only [Option.getD_none,Option.isSome_none,br0] at kF;have HBX:=h_235;obtain⟨Ar,cr,rfl,-⟩:=SlI.open_ hr;obtain⟨Ab,cb,rfl,-⟩:=bQ.open_ hv;clear hr hv;obtain⟨i,d,k,u,p,b,l,tt,m,x9,x10,x11⟩:=o;unfold Opn.agg;unfold Opn.cells at HBX;dsimp only at HBX kF ho ⊢;have KF:=uZ kF;have Ho:=uZ ho;clear kF ho;have GA:=h_8;have HB:=h_137;clear HBX;exact nX.g
):p:=h
theorem f_5 {p:Prop} (h:p:=by
 all_goals go_wp2_with fail
 all_goals go_meet
 all_goals first|exact fZ GQ3.out HTq3.out|exact cP Pq1 (Nat.le_refl _) GQ3.out HTq3.out|exact cP Pq2 GQ1.out.size GQ3.out HTq3.out|exact cP Pq3 GQ2.out.size GQ3.out HTq3.out
):p:=h
def mO (W0:World) (T:Tr) (s8:Value) (wx:World):Prop:=∃ X rv bv,s8=.pointer (some ⟨X,0,none⟩)∧wx.heap[X]? = some (.cells #[rv,bv] 43 (0,0))∧W0.heap.size≤X∧dF wx rv bv T∧aA W0 wx
theorem cP {W0 W:World} {T:Tr} {X:Nat} {rv bv:Value} (hX:W.heap[X]? = some (.cells #[.slice none 0 0,.slice none 0 0] 43 (0,0))) (hlo:W0.heap.size≤X) (hG:aA W0 W) (h:dF W rv bv T):mO W0 T (.pointer (some ⟨X,0,none⟩)) ((W.setCell ⟨X,0,none⟩ rv).setCell ⟨X,1,none⟩ bv):=by
 have h1:=heap_setCell_same W X 0 _ _ rv hX;have h2:=heap_setCell_same (W.setCell ⟨X,0,none⟩ rv) X 1 _ _ bv h1;exact⟨X,rv,bv,rfl,by simpa using h2,hlo,h.setT hX,(hG.setCell hlo _).setCell hlo _⟩
theorem fZ {W0 W:World} {T:Tr} {rv bv:Value} (hG:aA W0 W) (h:dF W rv bv T):mO W0 T (.pointer (some ⟨W.heap.size,0,none⟩)) (W.alloc (.cells #[rv,bv] 43)) :=
 ⟨_,rv,bv,rfl,aF rfl,hG.size,h.mono ((uX _).alloc _),hG.alloc _⟩
theorem aQ {w:World} {X:Nat} {rv bv:Value} (h:w.heap[X]? = some (.cells #[rv,bv] 43 (0,0))):w.cell? ⟨X,0,none⟩=some rv∧w.cell? ⟨X,1,none⟩=some bv∧w.frozen? ⟨X,0,none⟩=false∧w.frozen? ⟨X,1,none⟩=false:=by
 simp[World.cell?,World.frozen?,h]
def aOs (W0:World) (cs:List BrC) (L:List Br):Prop:=cs.length=L.length∧∀ i (h:i<cs.length) (h':i<L.length),vW W0 cs[i] L[i]
theorem aOs.snoc {W0:World} {cs:List BrC} {L:List Br} {c:BrC} {b:Br} (h:aOs W0 cs L) (hc:vW W0 c b):aOs W0 (cs++[c]) (L++[b]):=by
 refine⟨by simp[h.1],fun i hi hi'=>?_⟩;by_cases hik:i<cs.length
 ·rw[List.getElem_append_left hik,List.getElem_append_left (by rw[← h.1];exact hik)]
  exact h.2 i hik _
 ·have hl:=h.1
  have:i=cs.length:=by simp at hi;omega
  subst this;rw[List.getElem_append_right (Nat.le_refl _),List.getElem_append_right b_53];simp only [hl,Nat.sub_self,List.getElem_cons_zero];exact hc
theorem dK {t:Tr} (hf:cF t.brs) (hrl:t.roots.length≤1000000) (p:Int):(aB t p).length≤1000000:=by
 unfold aB;split
 ·exact hrl
 ·split
  ·simp
  ·rename_i b hb
   obtain⟨i,hi,e⟩:=List.mem_iff_getElem.1 (bE hb).1;rw[← e];exact hf.2 i hi
def aTj (n:Int) (l:List Br):List Br:=l.filter fun b=>!(b.id == n)
theorem aLo (l:List Br) (n:Int) (k:Nat) (hk:k<l.length):aTj n (l.take (k+1))=aTj n (l.take k)++(if l[k].id == n then[] else[l[k]]):=by
 unfold aTj;rw[List.take_succ_eq_append_getElem hk,List.filter_append]
 congr 1
 by_cases h:(l[k].id == n)=true
 ·simp[h]
 ·simp[h]
theorem kD {W W2:World} {H:Nat} {r b v0 v1 v2 v3 v4 v5 v6 v7 v8 v9 v10 v11:Value} {Y:Nat} {x:Value} (h:(W.cell? ⟨H,0,none⟩=some (r)∧W.cell? ⟨H,1,none⟩=some (b)∧W.cell? ⟨H+1,0,none⟩=some (v0)∧W.cell? ⟨H+1,1,none⟩=some (v1)∧W.cell? ⟨H+1,2,none⟩=some (v2)∧W.cell? ⟨H+1,3,none⟩=some (v3)∧W.cell? ⟨H+1,4,none⟩=some (v4)∧W.cell? ⟨H+1,5,none⟩=some (v5)∧W.cell? ⟨H+1,6,none⟩=some (v6)∧W.cell? ⟨H+1,7,none⟩=some (v7)∧W.cell? ⟨H+1,8,none⟩=some (v8)∧W.cell? ⟨H+1,9,none⟩=some (v9)∧W.cell? ⟨H+1,10,none⟩=some (v10)∧W.cell? ⟨H+1,11,none⟩=some (v11))∧W.cell? ⟨Y,1,none⟩=some x) (g:aA W W2):(W2.cell? ⟨H,0,none⟩=some (r)∧W2.cell? ⟨H,1,none⟩=some (b)∧W2.cell? ⟨H+1,0,none⟩=some (v0)∧W2.cell? ⟨H+1,1,none⟩=some (v1)∧W2.cell? ⟨H+1,2,none⟩=some (v2)∧W2.cell? ⟨H+1,3,none⟩=some (v3)∧W2.cell? ⟨H+1,4,none⟩=some (v4)∧W2.cell? ⟨H+1,5,none⟩=some (v5)∧W2.cell? ⟨H+1,6,none⟩=some (v6)∧W2.cell? ⟨H+1,7,none⟩=some (v7)∧W2.cell? ⟨H+1,8,none⟩=some (v8)∧W2.cell? ⟨H+1,9,none⟩=some (v9)∧W2.cell? ⟨H+1,10,none⟩=some (v10)∧W2.cell? ⟨H+1,11,none⟩=some (v11))∧W2.cell? ⟨Y,1,none⟩=some x:=⟨xK h.1 g,uQ g h.2⟩
def zAa:=Unit
def zEs:=Unit
theorem zEs.g {p:Prop} (_:zEs) (h:p:=by
 refine bodyPost_ret (v:=.tuple #[.agg #[.slice Ar t.roots.length cr,.slice Ab t.brs.length cb],.int .i64 7]) (by simp[results,Tryz.results103,go_sem,p0,p1]) rfl ?_;exact dM HR.out b_53 HG1.out (HTT.out _ HG1.out)
):p:=h
theorem zAa.g {p:Prop} (_:zAa) (h:p:=by
 have nX:zEs:=()
 exact s_16
):p:=h
def zEv:=Unit
theorem zEv.g {p:Prop} (_:zEv) (h:p:=by
 go_enter Tryz.func103,Tryz.ntmps103;have nX:zAa:=()
 exact s_1
):p:=h
theorem aCa (t:Tr) (o:Opn) (rv bv:Value) (w:World) (hr:SlI w rv t.roots) (hv:bQ w bv t.brs) (ho:aE t.brs o.unit=none):Calls Tryz.prog 103 #[.agg #[rv,bv],o.agg] w (bU (t,7) w):=by
 have nX:zEv:=()
 exact s_17
def zAb:=Unit
def zCw:=Unit
def zDt:=Unit
def zHm:=Unit
theorem zHm.g {p:Prop} (_:zHm) (h:p:=by
 refine bodyPost_ret (v:=.tuple #[.agg #[.slice Ar t.roots.length cr,.slice Ab t.brs.length cb],.int .i64 11]) (by simp[results,Tryz.results103,go_sem,p0,p1]) rfl ?_;exact dM HR.out b_53 HG2.out (HTT.out _ HG2.out)
):p:=h
theorem zDt.g {p:Prop} (_:zDt) (h:p:=by
 dsimp only;have nX:zHm:=()
 exact s_49
):p:=h
theorem zCw.g {p:Prop} (_:zCw) (h:p:=by
 clear g1;dsimp only;go_wp2_with fail;refine(Kch.out _ HG1.out).mono ?_;rintro e w2 ⟨v2,rfl,hv2,g2,-⟩;obtain⟨A2,k2,rfl,-⟩:=SlI.open_ hv2;have G2:=h_231;have HG2:=h_226;clear r0 b0 a0 a1 a2 a3 a4 a5 a6 a7 a8 a9 a10 a11 q0 q1 z0 z1 HR g2 hv2;have nX:zDt:=()
 exact s_10
):p:=h
theorem zAb.g {p:Prop} (_:zAb) (h:p:=by
 refine(KF.out _ GA.out).mono ?_;rintro e w1 ⟨rfl,g1⟩;have G1:=h_128;have HG1:=h_225;have nX:zCw:=()
 exact s_7
):p:=h
def zBu:=Unit
theorem zBu.g {p:Prop} (_:zBu) (h:p:=by
 obtain⟨fi,fp,fl,ft,fm,fk⟩:=fb;unfold Opn.agg;unfold Opn.cells at HBX;dsimp only at HBX kF kch ⊢;have KF:=uZ kF;have Kch:=uZ kch;clear kF kch;have GA:=h_8;have HB:=h_137;clear HBX;go_enter Tryz.func103,Tryz.ntmps103;have nX:zAb:=()
 exact s_1
):p:=h
theorem wJ (t:Tr) (o:Opn) (rv bv:Value) (w:World) (hr:SlI w rv t.roots) (hv:bQ w bv t.brs) (hf:cF t.brs) (hrl:t.roots.length≤1000000) {fb:Br} (ho:aE t.brs o.unit=some fb) (hk:aB t o.unit≠[]):Calls Tryz.prog 103 #[.agg #[rv,bv],o.agg] w (bU (t,11) w):=by
 have HTT:=h_160;have kF:=h_176;rw[ho] at kF;unfold aY at kF;dsimp only [Option.getD_some,Option.isSome_some] at kF;have kch:=fun W (hW:aA w W)=>bJ t.roots t.brs o.unit rv bv W (hr.mono hW) (hv.mono hW) hf hrl
 rw[show aB ⟨t.roots,t.brs⟩ o.unit=aB t o.unit from rfl] at kch;have hlen:(0:Int)<((aB t o.unit).length:Int):=by have:=List.length_pos_iff.2 hk;omega
 generalize aB t o.unit=KS at kch hlen;have nX:zBu:=()
 exact s_4
def zAc:=Unit
def zCx:=Unit
theorem zCx.g {p:Prop} (_:zCx) (h:p:=by
 clear g1;dsimp only;go_wp2_with fail;refine(Kch.out _ HG1.out).mono ?_;rintro e w2 ⟨v2,rfl,hv2,g2,-⟩;obtain⟨A2,k2,rfl,-⟩:=SlI.open_ hv2;have G2:=h_231;have HG2:=h_226;replace HUB:=uZ (uQ g2 HUB.out);clear r0 b0 a0 a1 a2 a3 a4 a5 a6 a7 a8 a9 a10 a11 q0 q1 z0 z1 HR g2 hv2;have HS:=uZ (show _∧_ from⟨(HB.out w2 G2.out).1,HUB.out⟩);generalize w1.heap.size=BU at HUB HS ⊢;clear HUB;dsimp only [List.length_nil];go_wp2_with fail;go_cut [8] from 28 to 39 (fun s8 wx=>mO w2 (T) s8 wx)
 case first =>
  as_aux_lemma =>
  go_region_held3 (fun W=>(W.cell? ⟨w.heap.size,0,none⟩=some (.slice Ar t.roots.length cr)∧W.cell? ⟨w.heap.size,1,none⟩=some (.slice Ab t.brs.length cb)∧W.cell? ⟨w.heap.size+1,0,none⟩=some (.int .i64 i)∧W.cell? ⟨w.heap.size+1,1,none⟩=some (.int .i64 d)∧W.cell? ⟨w.heap.size+1,2,none⟩=some (.int .i64 k)∧W.cell? ⟨w.heap.size+1,3,none⟩=some (.int .i64 u)∧W.cell? ⟨w.heap.size+1,4,none⟩=some (.int .i64 p)∧W.cell? ⟨w.heap.size+1,5,none⟩=some (.int .i64 b)∧W.cell? ⟨w.heap.size+1,6,none⟩=some (.int .i64 l)∧W.cell? ⟨w.heap.size+1,7,none⟩=some (.string tt)∧W.cell? ⟨w.heap.size+1,8,none⟩=some (.string m)∧W.cell? ⟨w.heap.size+1,9,none⟩=some (.int .i64 x9)∧W.cell? ⟨w.heap.size+1,10,none⟩=some (.int .i64 x10)∧W.cell? ⟨w.heap.size+1,11,none⟩=some (.int .i64 x11))∧W.cell? ⟨BU,1,none⟩=some (.int .i64 fp)) (exact kD HS.out b_1) (first|(go_at_call 149;refine(Kcp.out _ (HG2.out.trans b_27)).mono ?_;rintro e wq1 ⟨vq1,rfl,hvq1,gq1,-⟩;have GQ1:=uZ (show aA w2 wq1 from uY b_27 gq1);(first|have Na1:=uZ (show aA (w2.alloc (.cells [.slice none 0 0,.slice none 0 0].toArray 43)) wq1 from uY (uX _).drew gq1)|have Na1:=uZ (show aA (w2.alloc (.cells [.slice none 0 0,.slice none 0 0].toArray 43)) wq1 from uY (uX _) gq1)|skip);have HVq1:=uZ hvq1;clear hvq1;clear gq1)|(go_at_call 155;refine(Kwo.out _ _ (SlI.mono HVq1.out b_27)).mono ?_;rintro e wq2 ⟨vq2,rfl,hoq2,gq2⟩;have GQ2:=uZ (show aA w2 wq2 from uY b_17 gq2);have GL2:=uZ (show aA wq1 wq2 from uY b_27 gq2);(first|have Na2:=uZ (show aA (wq1.alloc (.cells [.slice none 0 0,.slice none 0 0].toArray 43)) wq2 from uY (uX _).drew gq2)|have Na2:=uZ (show aA (wq1.alloc (.cells [.slice none 0 0,.slice none 0 0].toArray 43)) wq2 from uY (uX _) gq2)|skip);have HVq2:=uZ (show SlI wq2 vq2 KW from Rd.of_own hoq2);clear hoq2;clear gq2)|(go_at_call 152;refine(Kst.out _ _ (HG2.out.trans (by repeat (first|exact uX _|exact GQ2.out|refine uJ ?_|refine uU ?_ _))) (SlI.mono HVq2.out b_27)).mono ?_;rintro e wq3 ⟨rq3,bq3,rfl,htq3,gq3⟩;have GQ3:=uZ (show aA w2 wq3 from uY (by repeat (first|exact uX _|exact GQ2.out|exact GQ1.out|refine uJ ?_|refine uU ?_ _)) gq3);have GL3:=uZ (show aA wq2 wq3 from uY b_27 gq3);(first|have Na3:=uZ (show aA (wq2.alloc (.cells [.slice none 0 0,.slice none 0 0].toArray 43)) wq3 from uY (uX _).drew gq3)|have Na3:=uZ (show aA (wq2.alloc (.cells [.slice none 0 0,.slice none 0 0].toArray 43)) wq3 from uY (uX _) gq3)|skip);(try have Pq1:=uK (((Na1.out).trans GL2.out).trans GL3.out) (aF (a:=w2) (p:=(.cells [.slice none 0 0,.slice none 0 0].toArray 43)) rfl));(try have pq10:=(aH Pq1).1);(try have pq11:=(aH Pq1).2.1);(try have pq12:=(aH Pq1).2.2.1);(try have pq13:=(aH Pq1).2.2.2);(try have Pq2:=uK ((Na2.out).trans GL3.out) (aF (a:=wq1) (p:=(.cells [.slice none 0 0,.slice none 0 0].toArray 43)) rfl));(try have pq20:=(aH Pq2).1);(try have pq21:=(aH Pq2).2.1);(try have pq22:=(aH Pq2).2.2.1);(try have pq23:=(aH Pq2).2.2.2);(try have Pq3:=uK (Na3.out) (aF (a:=wq2) (p:=(.cells [.slice none 0 0,.slice none 0 0].toArray 43)) rfl));(try have pq30:=(aH Pq3).1);(try have pq31:=(aH Pq3).2.1);(try have pq32:=(aH Pq3).2.2.1);(try have pq33:=(aH Pq3).2.2.2);obtain⟨⟨Aq3,nq3,kq3,rfl⟩,Bq3,mq3,lq3,rfl⟩:=bK htq3;have HTq3:=uZ htq3;clear htq3;clear gq3))
  all_goals exact f_5
 case rest =>
  skip;obtain⟨X,rvS,bvS,rfl,hX,hlo,hT,hgC⟩:=hcut;have HT:=uZ hT;have GC:=uZ (G2.out.trans hgC);have HGC:=uZ (HG2.out.trans hgC);obtain⟨A4,k4,rfl,-⟩:=SlI.open_ hT.1;obtain⟨B4,l4,rfl,-,-,hbr⟩:=bQ.open_ hT.2;have HBR:=uZ hbr;have HX:=uZ hX;have hRl:=(Array.getElem?_eq_some_iff.1 (HB.out w2 G2.out).2).1;have hRX:¬ w.heap.size+1+1=X:=by omega
  have hRC:=(Array.getElem?_eq_some_iff.1 (HB.out wc GC.out).2).1;have hwX:w.heap.size≤X:=by omega
  have HWX:=uZ hwX;have hwc:w.heap.size≤wc.heap.size:=HGC.out.size;clear hT hgC hbr hX hlo hRl hRC HS KF Kch Kcp Kwo Kst G2 HG2;go_wp2_with fail;go_loopg [9,10] T.brs.length (fun gg s9 s10 wr=>∃(kk:Nat) (cs:List BrC),kk≤T.brs.length∧T.brs.length-kk≤gg∧s10=.int .i64 kk∧Aside (wr.ownsRow wc.heap.size 66 6 s9 (aTj u (T.brs.take kk)).length (cs.flatMap BrC.cells))∧Aside (aOs wc cs (aTj u (T.brs.take kk)))∧Aside (aA wc wr))
  case atStart=>exact⟨0,[],by omega,by omega,rfl,(show Aside _ from World.ownsRow_nil _ _ _ _),(show Aside _ from⟨rfl,fun _ h=>absurd h (Nat.not_lt_zero _)⟩),(show Aside _ from uX _)⟩
  case round =>
   obtain⟨kk,cs,hkl,hgk,rfl,OW,HK,GW⟩:=hrel;obtain⟨x0,x1,fz0,fz1⟩:=aQ (uK GW.out HX.out);obtain⟨⟨r0,b0,a0,a1,a2,a3,a4,a5,a6,a7,a8,a9,a10,a11⟩,hR⟩:=HB.out wr (GC.out.trans GW.out);clear r0 b0 a0 a1 a2 a4 a5 a6 a7 a8 a9 a10 a11;by_cases hlt:kk<T.brs.length;rotate_left
   ·have hltz:¬ (kk:Int)<(T.brs.length:Int):=by omega
    obtain rfl:kk=T.brs.length:=by omega
    have ho:=OW.out;have hkp:=HK.out;rw[List.take_length] at ho hkp;have ht:dF wr (.slice A4 T.roots.length k4) u9 ⟨T.roots,aTj u T.brs⟩:=⟨SlI.mono HT.out.1 GW.out,cs,Rd.of_own ho,hkp.1,fun i h h2=>⟨(hkp.2 i h h2).1,(hkp.2 i h h2).2.mono GW.out⟩⟩
    have hX2:=uK GW.out HX.out;have HT2:=uZ (ht.setS (j:=1) (x:=u9) hX2 ⟨_,_,_,rfl⟩ ⟨_,_,_,rfl⟩);have hR2:=cG ⟨X,1,none⟩ u9 hR hRX;have HR:=uZ hR2;obtain⟨q0,q1,z0,z1⟩:=cL hR2;have HGF:=uZ ((HGC.out.trans GW.out).setCell (p:=⟨X,1,none⟩) HWX.out u9);obtain⟨A9,n9,c9,rfl⟩:=(show ∃ A n c,u9=.slice A n c from(bK ht).2)
    clear ho hkp ht hX2 hR hR2 OW HK HBR HT a3;go_wp2_with fail;obtain⟨p0,p1⟩:=aK (v0:=(.slice A4 T.roots.length k4)) (v1:=(.slice A9 n9 c9)) q0 q1;refine bodyPost_ret (v:=.tuple #[.agg #[.slice A4 T.roots.length k4,.slice A9 n9 c9],.int .i64 0]) (by simp[results,Tryz.results103,go_sem,p0,p1]) rfl ?_;exact dM HR.out b_53 HGF.out HT2.out
   have hltz:(kk:Int)<(T.brs.length:Int):=by omega
   have h0z:=h_214;obtain⟨bb,off,rfl,hb,hcell⟩:=HBR.out b_53;obtain⟨kv,hkv,hcl⟩:=hcell kk hlt;obtain⟨c0,c1,c2,c3,c4,c5⟩:=hcl wr GW.out;have HNX:=uZ (aLo T.brs u kk hlt);have HLE:=uZ (show(aTj u (T.brs.take kk)).length≤T.brs.length from Nat.le_trans (List.length_filter_le _ _) b_41);have HSN:=uZ (fun(h:vW wc (T.brs[kk].c kv) T.brs[kk])=>aOs.snoc (c:=T.brs[kk].c kv) (b:=T.brs[kk]) HK.out h);have HBO:=uZ (show vW wc (T.brs[kk].c kv) T.brs[kk] from⟨rfl,hkv⟩);obtain⟨Ak,nk,ck,rfl⟩:∃ A n c,kv=.slice A n c:=by obtain⟨A,c,e,-⟩:=SlI.open_ hkv;exact⟨A,_,c,e⟩
   obtain⟨A5,c5x,rfl⟩:=aJ OW.out;clear hcell hcl hkv hR x0 fz0 fz1;generalize T.brs[kk]=y at c0 c1 c2 c3 c4 c5 HNX HSN HBO;obtain⟨yi,yp,yl,yt,ym,yk⟩:=y;dsimp only at c0 c1 c2 c3 c4 c5 HNX;have hflx:T.brs.length≤1000000:=hTl;by_cases hid:yi=u
   ·have hb1:(yi != u)=false:=by simpa using hid
    have hb2:(yi == u)=true:=by simpa using hid
    rw[hb2] at HNX;simp only [if_true,List.append_nil] at HNX;clear hid hb2;go_wp2_with fail;go_quiet (fail);go_wp2_with fail;go_roundg (T.brs.length-(kk+1))
    case measure=>omega
    case rel =>
     refine⟨kk+1,cs,by omega,by omega,by go_num,?_,?_,(show Aside _ from GW.out.drewN _)⟩
     ·have h1:=aZ OW.out ((uX wr).drewN nq)
      rw[HNX.out];exact h1
     ·rw[HNX.out]
      exact HK
   ·have hb1:(yi != u)=true:=by simpa using hid
    have hb2:(yi == u)=false:=by simpa using hid
    rw[hb2] at HNX;simp only [Bool.false_eq_true,if_false] at HNX;clear hid hb2;go_wp2_with fail;go_quiet (fail);have hle:=HLE.out;go_wp2_with (at_builtin;refine aEa rfl _ _ 41 rfl wc 66 i0 (.agg #[.int .i64 0,.int .i64 0,.int .i64 0,.string ⟨#[]⟩,.string ⟨#[]⟩,.slice none 0 0]) 6 80 Tryz.underlying41 hi0 hz0 hz1 hz2 rfl b_53 _ _ _ b_55 (wr.drewN nq) (aZ OW.out ((uX _).drewN _)) (GW.out.drewN _) wr.heap.size b_54 [.int .i64 yi,.int .i64 yp,.int .i64 yl,.string yt,.string ym,.slice Ak nk ck] b_55 rfl rfl b_47 b_53 ?_;intro v8 w8 hown8 hg8;have HO8:=uZ hown8;have HG8:=uZ hg8;clear hown8 hg8)
    go_roundg (T.brs.length-(kk+1))
    case measure=>omega
    case rel =>
     refine⟨kk+1,cs++[⟨yi,yp,yl,yt,ym,.slice Ak nk ck⟩],by omega,by omega,by go_num,?_,?_,(show Aside _ from HG8.out)⟩
     ·have h1:=HO8.out
      rw[HNX.out];show World.ownsRow _ _ _ _ _ _ _;rw[List.length_append,List.flatMap_append];exact h1
     ·rw[HNX.out]
      exact HSN.out HBO.out
):p:=h
theorem zAc.g {p:Prop} (_:zAc) (h:p:=by
 refine(KF.out _ GA.out).mono ?_;rintro e w1 ⟨rfl,g1⟩;have G1:=h_128;have HG1:=h_225;have HUB:=uZ (bW (aF (a:=w1) (p:=(.cells #[.int .i64 fi,.int .i64 fp,.int .i64 fl,.string ft,.string fm] 64)) rfl)).2.1;have nX:zCx:=()
 exact s_7
):p:=h
def zBv:=Unit
theorem zBv.g {p:Prop} (_:zBv) (h:p:=by
 obtain⟨fi,fp,fl,ft,fm,fk⟩:=fb;unfold Opn.agg;unfold Opn.cells at HBX;dsimp only at HBX kF kch kcp kwo kst ⊢;have KF:=uZ kF;have Kch:=uZ kch;have Kcp:=uZ kcp;have Kwo:=uZ kwo;have Kst:=uZ kst;clear kF kch kcp kwo kst;have GA:=h_8;have HB:=h_137;clear HBX;go_enter Tryz.func103,Tryz.ntmps103;have nX:zAc:=()
 exact s_1
):p:=h
theorem zE (t:Tr) (o:Opn) (rv bv:Value) (w:World) (hr:SlI w rv t.roots) (hv:bQ w bv t.brs) (hf:cF t.brs) (hrl:t.roots.length≤1000000) {fb:Br} (ho:aE t.brs o.unit=some fb) (hk:aB t o.unit=[]):Calls Tryz.prog 103 #[.agg #[rv,bv],o.agg] w (bU (⟨(iD t fb.parent (aI o.unit (aB t fb.parent))).roots,aTj o.unit (iD t fb.parent (aI o.unit (aB t fb.parent))).brs⟩,0) w):=by
 have HTT:=h_160;have kF:=h_176;rw[ho] at kF;unfold aY at kF;dsimp only [Option.getD_some,Option.isSome_some] at kF;have kch:=fun W (hW:aA w W)=>bJ t.roots t.brs o.unit rv bv W (hr.mono hW) (hv.mono hW) hf hrl
 rw[show aB ⟨t.roots,t.brs⟩ o.unit=[] from hk] at kch;have KCP:=uZ (fun W (hW:aA w W)=>bJ t.roots t.brs fb.parent rv bv W (hr.mono hW) (hv.mono hW) hf hrl);have hkl:=dK hf hrl fb.parent;have KST:=uZ (fun ks kv W (hW:aA w W) (h:SlI W kv ks)=>iK t fb.parent ks rv bv kv W (hr.mono hW) (hv.mono hW) hf hrl h);have hTl:(iD t fb.parent (aI o.unit (aB t fb.parent))).brs.length≤1000000:=by unfold iD;rw[List.length_map];exact hf.1
 have KWO:=uZ (fun v W (h:SlI W v (aB t fb.parent))=>eZ (aB t fb.parent) o.unit v W h hkl);have kcp:=fun W hW=>KCP.out W hW
 rw[show aB ⟨t.roots,t.brs⟩ fb.parent=aB t fb.parent from rfl] at kcp;have kwo:=fun v W h=>KWO.out v W h
 have kst:=fun kv W hW h=>KST.out (aI o.unit (aB t fb.parent)) kv W hW h
 clear KCP KWO KST;obtain⟨i0,hi0,hz0,hz1,hz2⟩:=info_parts rD;generalize iD t fb.parent (aI o.unit (aB t fb.parent))=T at kst hTl ⊢;generalize aI o.unit (aB t fb.parent)=KW at kwo kst;generalize aB t fb.parent=KP at kcp kwo;skip;have nX:zBv:=()
 exact s_4
theorem pG {t:Tr} (hf:cF t.brs) (hrl:t.roots.length≤1000000) (p:Int) {ks:List Int} (hk:ks.length≤1000000):cF (iD t p ks).brs∧(iD t p ks).roots.length≤1000000:=by
 refine⟨⟨?_,fun i hi=>?_⟩,?_⟩
 ·show(t.brs.map (jD p ks)).length≤1000000
  rw[List.length_map];exact hf.1
 ·have h2:i<t.brs.length:=by
   have:i<(t.brs.map (jD p ks)).length:=hi
   rwa [List.length_map] at this
  have:(iD t p ks).brs[i]=jD p ks t.brs[i]:=List.getElem_map ..
  rw[this];unfold jD;split
  ·exact hk
  ·exact hf.2 i h2
 ·show(if p=0 then ks else t.roots).length≤1000000
  split
  ·exact hk
  ·exact hrl
theorem qE {t:Tr} (h:bG t):∀ b∈t.brs,b.id≠0:=fun b hb=>cC (h.units b hb)
theorem zB {t:Tr} (h:∀ b∈t.brs,b.id≠0) (p:Int) (ks:List Int):∀ b∈(iD t p ks).brs,b.id≠0:=fun b hb=>by
 obtain⟨c,hc,rfl⟩:=List.mem_map.1 hb
 have:(jD p ks c).id=c.id:=by
  unfold jD;split<;>rfl
 rw[this];exact h c hc
theorem aAv {t:Tr} (h:bG t) {p:Int} (hp:p=0∨∃ b∈t.brs,b.id=p):(aB t p).Nodup∧(0:Int)∉aB t p:=by
 have hk:fK t.brs (aB t p) p:=((bX t).1 h).2 p hp;refine⟨hk.1,fun hm=>?_⟩;obtain⟨b,hb,_,e⟩:=(hk.2 0).1 hm;exact cC (h.units b hb) e
theorem aBp (n:Int) {l:List Int} (h:l.length≤1000000):(aI n l).length≤1000000:=Nat.le_trans (List.length_filter_le _ _) h
theorem wQ (n b:Int):∀ {l:List Int},l.length<1000000→(iL n b l).length≤1000000
 | [],_=>by
  unfold iL;split<;>simp
 | x::r,h=>by
  unfold iL;split
  ·simp at h ⊢
   omega
  ·have:=wQ n b (l:=r) (by simp at h;omega)
   have h2:(iL n b r).length≤r.length+1:=putF_le n b r;simp at h ⊢;omega
 where
 putF_le (n b:Int):∀ l:List Int,(iL n b l).length≤l.length+1
 | []=>by
  unfold iL;split<;>simp
 | x::r=>by
  unfold iL;split
  ·simp
  ·have:=putF_le n b r
   simp;omega
section
variable {t:Tr} {o:Opn} {fb:Br}
def bB (t:Tr) (o:Opn) (fb:Br):Tr:=iD t fb.parent (aI o.unit (aB t fb.parent))
theorem qR (hs:bG t) (hb:aE t.brs o.unit=some fb) {q:Int} (hq:q=0∨∃ b∈t.brs,b.id=q):aB (bB t o fb) q=aI o.unit (aB t q):=by
 have hin:=bE hb;unfold bB;rw[sM (qE hs),← hin.2];exact rE hs hin.1 q hq
theorem jG (hf:cF t.brs) (hrl:t.roots.length≤1000000):cF (bB t o fb).brs∧(bB t o fb).roots.length≤1000000:=pG hf hrl _ (aBp _ (dK hf hrl _))
theorem aQp (hs:bG t) (hb:aE t.brs o.unit=some fb) (hp:o.parent=0∨∃ b∈t.brs,b.id=o.parent) :
  chG (iD (bB t o fb) o.parent (iL o.unit o.before (aI o.unit (aB t o.parent)))) { fb with parent:=o.parent }=jM t o fb:=by
 have hin:=bE hb;have h0:=qE hs;have hz:∀ b∈(bB t o fb).brs,b.id≠0:=zB h0 _ _;rw[sM hz];unfold jM;have ht:bB t o fb=fW t fb.parent (aI o.unit (aB t fb.parent)):=sM h0 _ _;have hc:=qR hs hb hp;rw[ht] at hc ⊢;dsimp only;rw[hc];generalize hT:fW (fW t fb.parent (aI o.unit (aB t fb.parent))) o.parent (iL o.unit o.before (aI o.unit (aB t o.parent)))=T
 have hm:∀ b∈T.brs,b.id=o.unit→mK b=mK fb:=by
  intro b hbm he;rw[← hT] at hbm
  have key:∀(x:Tr) (p:Int) (ks:List Int) (b:Br),b∈(fW x p ks).brs→∃ c∈x.brs,mK b=mK c:=by
   intro x p ks b hb;rw[dH] at hb;split at hb
   ·exact⟨b,hb,rfl⟩
   ·obtain⟨c,hc,rfl⟩:=List.mem_map.1 hb
    exact⟨c,hc,fC p ks c⟩
  obtain⟨c,hc,e1⟩:=key _ _ _ b hbm;obtain⟨d,hd,e2⟩:=key _ _ _ c hc;have e3:=(bZ (e1.trans e2)).1;have:d=fb:=lD hs.asc hd hin.1 (by rw[← e3,he,hin.2]);rw[e1,e2,this]
 unfold chG jX
 congr 1
 refine List.map_congr_left fun b hbm=>?_
 unfold wP;dsimp only;by_cases e:b.id=o.unit
 ·have h1:=bZ (hm b hbm e)
  rw[if_pos (by rw[e,hin.2]),if_pos e,← h1.1,← h1.2.2.1,← h1.2.2.2.1,← h1.2.2.2.2]
 ·rw[if_neg (by rw[hin.2];exact e),if_neg e]
end
theorem h_228 {p:Prop} (h:p:=by
 exact uZ (GA.out.trans G5.out)
):p:=h
theorem h_227 {p:Prop} (h:p:=by
 exact uZ (GA.out.trans G3.out)
):p:=h
theorem s_9 {p:Prop} (h:p:=by
 refine(KB.out _ HG2.out).mono ?_;rintro e w3 ⟨v3,rfl,hv3,g3⟩;have G3:=h_232;have HG3:=h_227;have HU3:=uZ (uK g3 HU2.out);have HV3:=uZ hv3;clear r0 b0 a0 a1 a2 a3 a4 a5 a6 a7 a8 a9 a10 a11 q0 q1 z0 z1 HR g3 hv3 KB KF KG;obtain⟨⟨r0,b0,a0,a1,a2,a3,a4,a5,a6,a7,a8,a9,a10,a11⟩,hR⟩:=HB.out _ G3.out;obtain⟨q0,q1,z0,z1⟩:=cL hR;have HR:=uZ hR;clear hR;dsimp only;go_wp2_with fail;refine(KH.out _ _ HV3.out).mono ?_;rintro e w4 ⟨rfl,rfl⟩;dsimp only;exact nX.g
):p:=h
def zDr:=Unit
def zHt:=Unit
theorem zHt.g {p:Prop} (_:zHt) (h:p:=by
 refine bodyPost_ret (v:=.tuple #[.agg #[.slice Ar t.roots.length cr,.slice Ab t.brs.length cb],.int .i64 n]) b_32 rfl ?_;exact dM HR.out b_53 HG5.out (HTT.out _ HG5.out)
):p:=h
theorem zDr.g {p:Prop} (_:zDr) (h:p:=by
 have hnb:(n != 0)=true:=by simpa using hn0
 obtain⟨u0,u1,u2,-⟩:=bW HU3.out;go_wp2_with fail;refine(KL.out _ HG3.out).mono ?_;rintro e w5 ⟨rfl,g5⟩;have G5:=uZ (G3.out.trans g5);have HG5:=h_228;clear r0 b0 a0 a1 a2 a3 a4 a5 a6 a7 a8 a9 a10 a11 q0 q1 z0 z1 HR g5 u0 u1 u2;obtain⟨⟨r0,b0,a0,a1,a2,a3,a4,a5,a6,a7,a8,a9,a10,a11⟩,hR⟩:=HB.out _ G5.out;obtain⟨q0,q1,z0,z1⟩:=cL hR;have HR:=uZ hR;clear hR;dsimp only;have nX:zHt:=()
 exact s_49
):p:=h
theorem c_29 {p:Prop} (h:p:=by
 have nX:zDr:=()
 exact s_9
):p:=h
def zDs:=Unit
def zHu:=Unit
theorem zHu.g {p:Prop} (_:zHu) (h:p:=by
 refine bodyPost_ret (v:=.tuple #[.agg #[.slice Ar t.roots.length cr,.slice Ab t.brs.length cb],.int .i64 17]) b_32 rfl ?_;exact dM HR.out b_53 HG3.out (HTT.out _ HG3.out)
):p:=h
theorem zDs.g {p:Prop} (_:zDs) (h:p:=by
 have nX:zHu:=()
 exact s_49
):p:=h
theorem c_32 {p:Prop} (h:p:=by
 have nX:zDs:=()
 exact s_9
):p:=h
theorem h_100 {p:Prop} (h:p:=by
 exact uZ ((G1.out.trans g2).alloc (.cells #[.int .i64 0,.int .i64 0,.int .i64 0,.string ⟨#[]⟩,.string ⟨#[]⟩] 64))
):p:=h
theorem h_102 {p:Prop} (h:p:=by
 exact uZ (uK (g2.alloc (.cells #[.int .i64 0,.int .i64 0,.int .i64 0,.string ⟨#[]⟩,.string ⟨#[]⟩] 64)) HBU.out)
):p:=h
theorem h_106 {p:Prop} (h:p:=by
 exact uZ (aF (a:=w1) (p:=(.cells #[.int .i64 fi,.int .i64 fp,.int .i64 fl,.string ft,.string fm] 64)) rfl)
):p:=h
theorem h_107 {p:Prop} (h:p:=by
 exact uZ ((G1.out.trans g2).alloc (.cells #[.int .i64 pi,.int .i64 pp,.int .i64 pl,.string pt,.string pm] 64))
):p:=h
theorem h_112 {p:Prop} (h:p:=by
 exact uZ (uK (g2.alloc (.cells #[.int .i64 pi,.int .i64 pp,.int .i64 pl,.string pt,.string pm] 64)) HBU.out)
):p:=h
theorem h_130 {p:Prop} (h:p:=by
 exact fun W (hW:aA w W)=>gO t.roots t.brs o.unit rv bv W (hr.mono hW) (hv.mono hW) hf hrl hm
):p:=h
theorem h_144 {p:Prop} (h:p:=by
 exact fun W (hW:aA w W)=>nK t o.parent fb.level rv bv W (hr.mono hW) (hv.mono hW)
):p:=h
theorem h_170 {p:Prop} (h:p:=by
 exact fun W (hW:aA w W)=>aR t.brs o.parent rv bv W (hv.mono hW)
):p:=h
theorem h_199 {p:Prop} (h:p:=by
 exact fun v W h=>dI (bA t o.unit) o.parent v W h
):p:=h
theorem h_205 {p:Prop} (h:p:=by
 exact(show(p != 0)=false from by simpa using Hp.out)
):p:=h
theorem s_22 {p:Prop} (h:p:=by
 have HTT:=h_160;have kF:=h_176;rw[ho] at kF;unfold aY at kF;dsimp only [Option.getD_some,Option.isSome_some] at kF;have hin:=bE ho;have kG:=h_170;rw[hn] at kG;unfold aY at kG;dsimp only [Option.getD_none,Option.isSome_none,br0] at kG;exact nX.g
):p:=h
theorem s_24 {p:Prop} (h:p:=by
 have HTT:=h_160;have kF:=h_176;rw[ho] at kF;unfold aY at kF;dsimp only [Option.getD_some,Option.isSome_some] at kF;have hin:=bE ho;have kG:=h_170;rw[hp] at kG;unfold aY at kG;dsimp only [Option.getD_some,Option.isSome_some] at kG;exact nX.g
):p:=h
theorem s_25 {p:Prop} (h:p:=by
 clear g1;dsimp only;have hpb:=h_205;go_wp2_with fail;refine(KG.out _ HG1.out).mono ?_;rintro e w2 ⟨rfl,g2⟩;have G2:=h_100;have HG2:=h_226;have HU2:=h_102;clear r0 b0 a0 a1 a2 a3 a4 a5 a6 a7 a8 a9 a10 a11 q0 q1 z0 z1 HR g2 HBU;exact nX.g
):p:=h
theorem s_31 {p:Prop} (h:p:=by
 clear g1;dsimp only;go_wp2_with fail;refine(KG.out _ HG1.out).mono ?_;rintro e w2 ⟨rfl,g2⟩;have G2:=h_107;have HG2:=h_226;have HU2:=h_112;clear r0 b0 a0 a1 a2 a3 a4 a5 a6 a7 a8 a9 a10 a11 q0 q1 z0 z1 HR g2 HBU;exact nX.g
):p:=h
theorem s_32 {p:Prop} (h:p:=by
 dsimp only;go_wp2_with fail;generalize w2.alloc (.cells #[.int .i64 0,.int .i64 0,.int .i64 0,.string ⟨#[]⟩,.string ⟨#[]⟩] 64)=wY at G2 HG2 HU2 r0 b0 a0 a1 a2 a3 a4 a5 a6 a7 a8 a9 a10 a11 q0 q1 z0 z1 HR ⊢;exact nX.g
):p:=h
theorem s_37 {p:Prop} (h:p:=by
 dsimp only;go_wp2_with fail;generalize w2.alloc (.cells #[.int .i64 pi,.int .i64 pp,.int .i64 pl,.string pt,.string pm] 64)=wY at G2 HG2 HU2 r0 b0 a0 a1 a2 a3 a4 a5 a6 a7 a8 a9 a10 a11 q0 q1 z0 z1 HR ⊢;exact nX.g
):p:=h
def aGk (W0:World) (X:Nat) (T:Tr) (wx:World):Prop:=∃ rv bv,wx.heap[X]? = some (.cells #[rv,bv] 43 (0,0))∧dF wx rv bv T∧aA W0 wx
theorem rP {W0 W:World} {X:Nat} {T:Tr} {rv bv r0 b0:Value} (hX:W.heap[X]? = some (.cells #[r0,b0] 43 (0,0))) (h0:∃ A n c,r0=.slice A n c) (h1:∃ A n c,b0=.slice A n c) (hlo:W0.heap.size≤X) (hG:aA W0 W) (h:dF W rv bv T):aGk W0 X T ((W.setCell ⟨X,0,none⟩ rv).setCell ⟨X,1,none⟩ bv):=by
 have k1:=heap_setCell_same W X 0 #[r0,b0] 43 rv hX;have k2:(W.setCell ⟨X,0,none⟩ rv).heap[X]? = some (.cells #[rv,b0] 43 (0,0)):=by simpa using k1
 have k3:=heap_setCell_same (W.setCell ⟨X,0,none⟩ rv) X 1 #[rv,b0] 43 bv k2;exact⟨rv,bv,by simpa using k3,(h.setS hX h0 h1).setS k2 (bK h).1 h1,(hG.setCell hlo _).setCell hlo _⟩
def zAd:=Unit
def zEt:=Unit
theorem zEt.g {p:Prop} (_:zEt) (h:p:=by
 refine bodyPost_ret (v:=.tuple #[.agg #[.slice Ar t.roots.length cr,.slice Ab t.brs.length cb],.int .i64 7]) b_32 rfl ?_;exact dM HR.out b_53 HG1.out (HTT.out _ HG1.out)
):p:=h
theorem zAd.g {p:Prop} (_:zAd) (h:p:=by
 have nX:zEt:=()
 exact s_16
):p:=h
def zEw:=Unit
theorem zEw.g {p:Prop} (_:zEw) (h:p:=by
 go_enter Tryz.func102,Tryz.ntmps102;have nX:zAd:=()
 exact s_1
):p:=h
theorem aKh (t:Tr) (o:Opn) (rv bv:Value) (w:World) (hr:SlI w rv t.roots) (hv:bQ w bv t.brs) (ho:aE t.brs o.unit=none):Calls Tryz.prog 102 #[.agg #[rv,bv],o.agg] w (bU (t,7) w):=by
 have nX:zEw:=()
 exact s_17
def zAe:=Unit
def zCy:=Unit
def zDu:=Unit
def zHn:=Unit
theorem zHn.g {p:Prop} (_:zHn) (h:p:=by
 refine bodyPost_ret (v:=.tuple #[.agg #[.slice Ar t.roots.length cr,.slice Ab t.brs.length cb],.int .i64 7]) b_32 rfl ?_;exact dM HR.out b_53 HG2.out (HTT.out _ HG2.out)
):p:=h
theorem zDu.g {p:Prop} (_:zDu) (h:p:=by
 dsimp only;have nX:zHn:=()
 exact s_49
):p:=h
theorem zCy.g {p:Prop} (_:zCy) (h:p:=by
 clear g1;have hpb:(p != 0)=true:=by simpa using Hp.out
 dsimp only;go_wp2_with fail;refine(KG.out _ HG1.out).mono ?_;rintro e w2 ⟨rfl,g2⟩;have G2:=h_100;have HG2:=h_226;clear r0 b0 a0 a1 a2 a3 a4 a5 a6 a7 a8 a9 a10 a11 q0 q1 z0 z1 HR g2;have nX:zDu:=()
 exact s_10
):p:=h
theorem zAe.g {p:Prop} (_:zAe) (h:p:=by
 refine(KF.out _ GA.out).mono ?_;rintro e w1 ⟨rfl,g1⟩;have G1:=h_128;have HG1:=h_225;have nX:zCy:=()
 exact s_7
):p:=h
theorem aGx (t:Tr) (o:Opn) (rv bv:Value) (w:World) (hr:SlI w rv t.roots) (hv:bQ w bv t.brs) {fb:Br} (ho:aE t.brs o.unit=some fb) (hp:o.parent≠0) (hn:aE t.brs o.parent=none):Calls Tryz.prog 102 #[.agg #[rv,bv],o.agg] w (bU (t,7) w):=by
 have HTT:=h_160;have kF:=h_176;rw[ho] at kF;unfold aY at kF;dsimp only [Option.getD_some,Option.isSome_some] at kF;have kG:=h_170;rw[hn] at kG;unfold aY at kG;dsimp only [Option.getD_none,Option.isSome_none,br0] at kG;have HBX:=h_235;obtain⟨Ar,cr,rfl,-⟩:=SlI.open_ hr;obtain⟨Ab,cb,rfl,-⟩:=bQ.open_ hv;clear hr hv;obtain⟨i,d,k,u,p,b,l,tt,m,x9,x10,x11⟩:=o;obtain⟨fi,fp,fl,ft,fm,fk⟩:=fb;unfold Opn.agg;unfold Opn.cells at HBX;dsimp only at HBX kF kG hp ⊢;have KF:=uZ kF;have KG:=uZ kG;have Hp:=uZ hp;clear kF kG hp;have GA:=h_8;have HB:=h_137;clear HBX;go_enter Tryz.func102,Tryz.ntmps102;have nX:zAe:=()
 exact s_1
def zAf:=Unit
def zCz:=Unit
def zDv:=Unit
def zGn:=Unit
theorem zGn.g {p:Prop} (_:zGn) (h:p:=by
 exact c_32
):p:=h
theorem zDv.g {p:Prop} (_:zDv) (h:p:=by
 generalize w1.heap.size=BU at HU2 ⊢;have nX:zGn:=()
 exact s_37
):p:=h
def zF4:=Unit
theorem zF4.g {p:Prop} (_:zF4) (h:p:=by
 have nX:zDv:=()
 exact s_10
):p:=h
theorem zCz.g {p:Prop} (_:zCz) (h:p:=by
 have nX:zF4:=()
 exact s_31
):p:=h
theorem zAf.g {p:Prop} (_:zAf) (h:p:=by
 obtain⟨pi,pp,pl,pt,pm,pk⟩:=pq;refine(KF.out _ GA.out).mono ?_;rintro e w1 ⟨rfl,g1⟩;have G1:=h_128;have HG1:=h_225;have HBU:=h_106;have nX:zCz:=()
 exact s_7
):p:=h
def zBw:=Unit
theorem zBw.g {p:Prop} (_:zBw) (h:p:=by
 obtain⟨fi,fp,fl,ft,fm,fk⟩:=fb;unfold Opn.agg;unfold Opn.cells at HBX;dsimp only at HBX kF kG kB kH ⊢;have KF:=uZ kF;have KG:=uZ kG;have KB:=uZ kB;have KH:=uZ kH;clear kF kG kB kH;have GA:=h_8;have HB:=h_137;clear HBX;go_enter Tryz.func102,Tryz.ntmps102;have nX:zAf:=()
 exact s_1
):p:=h
def zFh:=Unit
theorem zFh.g {p:Prop} (_:zFh) (h:p:=by
 have kB:=h_130;rw[show eC ⟨t.roots,t.brs⟩ o.unit=_ from dP hT (.inr ⟨fb,hin.1,hin.2⟩)] at kB;clear hin;have kH:=h_199;rw[decide_eq_true hc] at kH;have nX:zBw:=()
 exact s_4
):p:=h
theorem aCf (t:Tr) (o:Opn) (rv bv:Value) (w:World) (hr:SlI w rv t.roots) (hv:bQ w bv t.brs) (hf:cF t.brs) (hrl:t.roots.length≤1000000) (hT:aM t) (hm:∀ i (h:i<t.brs.length),t.brs[i].mark.size≤9223372036854775807) {fb:Br} (ho:aE t.brs o.unit=some fb) {pq:Br} (hp:aE t.brs o.parent=some pq) (hc:o.parent∈bA t o.unit):Calls Tryz.prog 102 #[.agg #[rv,bv],o.agg] w (bU (t,17) w):=by
 have nX:zFh:=()
 exact s_24
def zAg:=Unit
def zC0:=Unit
def zDw:=Unit
def zGo:=Unit
theorem zGo.g {p:Prop} (_:zGo) (h:p:=by
 exact c_29
):p:=h
theorem zDw.g {p:Prop} (_:zDw) (h:p:=by
 generalize w1.heap.size=BU at HU2 ⊢;have nX:zGo:=()
 exact s_37
):p:=h
def zF5:=Unit
theorem zF5.g {p:Prop} (_:zF5) (h:p:=by
 have nX:zDw:=()
 exact s_10
):p:=h
theorem zC0.g {p:Prop} (_:zC0) (h:p:=by
 have nX:zF5:=()
 exact s_31
):p:=h
theorem zAg.g {p:Prop} (_:zAg) (h:p:=by
 obtain⟨pi,pp,pl,pt,pm,pk⟩:=pq;refine(KF.out _ GA.out).mono ?_;rintro e w1 ⟨rfl,g1⟩;have G1:=h_128;have HG1:=h_225;have HBU:=h_106;have nX:zC0:=()
 exact s_7
):p:=h
def zBx:=Unit
theorem zBx.g {p:Prop} (_:zBx) (h:p:=by
 obtain⟨fi,fp,fl,ft,fm,fk⟩:=fb;unfold Opn.agg;unfold Opn.cells at HBX;dsimp only at HBX kF kG kB kH kL ⊢;have KF:=uZ kF;have KG:=uZ kG;have KB:=uZ kB;have KH:=uZ kH;have KL:=uZ kL;clear kF kG kB kH kL;have GA:=h_8;have HB:=h_137;clear HBX;go_enter Tryz.func102,Tryz.ntmps102;have nX:zAg:=()
 exact s_1
):p:=h
def zFi:=Unit
theorem zFi.g {p:Prop} (_:zFi) (h:p:=by
 have kB:=h_130;rw[show eC ⟨t.roots,t.brs⟩ o.unit=_ from dP hT (.inr ⟨fb,hin.1,hin.2⟩)] at kB;clear hin;have kH:=h_199;rw[decide_eq_false hc] at kH;have kL:=h_144;rw[hl] at kL;have nX:zBx:=()
 exact s_4
):p:=h
theorem aCd (t:Tr) (o:Opn) (rv bv:Value) (w:World) (hr:SlI w rv t.roots) (hv:bQ w bv t.brs) (hf:cF t.brs) (hrl:t.roots.length≤1000000) (hT:aM t) (hm:∀ i (h:i<t.brs.length),t.brs[i].mark.size≤9223372036854775807) {fb:Br} (ho:aE t.brs o.unit=some fb) {pq:Br} (hp:aE t.brs o.parent=some pq) (hc:o.parent∉bA t o.unit) {n:Int} (hl:mZ t o.parent fb.level=n) (hn0:n≠0):Calls Tryz.prog 102 #[.agg #[rv,bv],o.agg] w (bU (t,n) w):=by
 have nX:zFi:=()
 exact s_24
def zAh:=Unit
def zC1:=Unit
def zDx:=Unit
def zF9:=Unit
theorem zF9.g {p:Prop} (_:zF9) (h:p:=by
 exact c_32
):p:=h
theorem zDx.g {p:Prop} (_:zDx) (h:p:=by
 generalize w1.heap.size=BU at HU2 ⊢;have nX:zF9:=()
 exact s_32
):p:=h
def zFm:=Unit
theorem zFm.g {p:Prop} (_:zFm) (h:p:=by
 have nX:zDx:=()
 exact s_10
):p:=h
theorem zC1.g {p:Prop} (_:zC1) (h:p:=by
 have nX:zFm:=()
 exact s_25
):p:=h
theorem zAh.g {p:Prop} (_:zAh) (h:p:=by
 refine(KF.out _ GA.out).mono ?_;rintro e w1 ⟨rfl,g1⟩;have G1:=h_128;have HG1:=h_225;have HBU:=h_106;have nX:zC1:=()
 exact s_7
):p:=h
def zBy:=Unit
theorem zBy.g {p:Prop} (_:zBy) (h:p:=by
 obtain⟨fi,fp,fl,ft,fm,fk⟩:=fb;unfold Opn.agg;unfold Opn.cells at HBX;dsimp only at HBX kF kG kB hp kH ⊢;have KF:=uZ kF;have KG:=uZ kG;have KB:=uZ kB;have Hp:=uZ hp;have KH:=uZ kH;clear kF kG kB hp kH;have GA:=h_8;have HB:=h_137;clear HBX;go_enter Tryz.func102,Tryz.ntmps102;have nX:zAh:=()
 exact s_1
):p:=h
def zFa:=Unit
theorem zFa.g {p:Prop} (_:zFa) (h:p:=by
 have kB:=h_130;rw[show eC ⟨t.roots,t.brs⟩ o.unit=_ from dP hT (.inr ⟨fb,hin.1,hin.2⟩)] at kB;clear hin;have kH:=h_199;rw[decide_eq_true hc] at kH;have nX:zBy:=()
 exact s_4
):p:=h
theorem aCe (t:Tr) (o:Opn) (rv bv:Value) (w:World) (hr:SlI w rv t.roots) (hv:bQ w bv t.brs) (hf:cF t.brs) (hrl:t.roots.length≤1000000) (hT:aM t) (hm:∀ i (h:i<t.brs.length),t.brs[i].mark.size≤9223372036854775807) {fb:Br} (ho:aE t.brs o.unit=some fb) (hp:o.parent=0) (hn:aE t.brs o.parent=none) (hc:o.parent∈bA t o.unit):Calls Tryz.prog 102 #[.agg #[rv,bv],o.agg] w (bU (t,17) w):=by
 have nX:zFa:=()
 exact s_22
def zAi:=Unit
def zC2:=Unit
def zDy:=Unit
def zGa:=Unit
theorem zGa.g {p:Prop} (_:zGa) (h:p:=by
 exact c_29
):p:=h
theorem zDy.g {p:Prop} (_:zDy) (h:p:=by
 generalize w1.heap.size=BU at HU2 ⊢;have nX:zGa:=()
 exact s_32
):p:=h
def zFn:=Unit
theorem zFn.g {p:Prop} (_:zFn) (h:p:=by
 have nX:zDy:=()
 exact s_10
):p:=h
theorem zC2.g {p:Prop} (_:zC2) (h:p:=by
 have nX:zFn:=()
 exact s_25
):p:=h
theorem zAi.g {p:Prop} (_:zAi) (h:p:=by
 refine(KF.out _ GA.out).mono ?_;rintro e w1 ⟨rfl,g1⟩;have G1:=h_128;have HG1:=h_225;have HBU:=h_106;have nX:zC2:=()
 exact s_7
):p:=h
def zBz:=Unit
theorem zBz.g {p:Prop} (_:zBz) (h:p:=by
 obtain⟨fi,fp,fl,ft,fm,fk⟩:=fb;unfold Opn.agg;unfold Opn.cells at HBX;dsimp only at HBX kF kG kB hp kH kL ⊢;have KF:=uZ kF;have KG:=uZ kG;have KB:=uZ kB;have Hp:=uZ hp;have KH:=uZ kH;have KL:=uZ kL;clear kF kG kB hp kH kL;have GA:=h_8;have HB:=h_137;clear HBX;go_enter Tryz.func102,Tryz.ntmps102;have nX:zAi:=()
 exact s_1
):p:=h
def zFb:=Unit
theorem zFb.g {p:Prop} (_:zFb) (h:p:=by
 have kB:=h_130;rw[show eC ⟨t.roots,t.brs⟩ o.unit=_ from dP hT (.inr ⟨fb,hin.1,hin.2⟩)] at kB;clear hin;have kH:=h_199;rw[decide_eq_false hc] at kH;have kL:=h_144;rw[hl] at kL;have nX:zBz:=()
 exact s_4
):p:=h
theorem aCc (t:Tr) (o:Opn) (rv bv:Value) (w:World) (hr:SlI w rv t.roots) (hv:bQ w bv t.brs) (hf:cF t.brs) (hrl:t.roots.length≤1000000) (hT:aM t) (hm:∀ i (h:i<t.brs.length),t.brs[i].mark.size≤9223372036854775807) {fb:Br} (ho:aE t.brs o.unit=some fb) (hp:o.parent=0) (hn:aE t.brs o.parent=none) (hc:o.parent∉bA t o.unit) {n:Int} (hl:mZ t o.parent fb.level=n) (hn0:n≠0):Calls Tryz.prog 102 #[.agg #[rv,bv],o.agg] w (bU (t,n) w):=by
 have nX:zFb:=()
 exact s_22
theorem e_5 {p:Prop} (h:p:=by
 as_aux_lemma =>
 go_region_held3 (fun W=>(W.cell? ⟨w.heap.size,0,none⟩=some (.slice Ar t.roots.length cr)∧W.cell? ⟨w.heap.size,1,none⟩=some (.slice Ab t.brs.length cb)∧W.cell? ⟨w.heap.size+1,0,none⟩=some (.int .i64 i)∧W.cell? ⟨w.heap.size+1,1,none⟩=some (.int .i64 d)∧W.cell? ⟨w.heap.size+1,2,none⟩=some (.int .i64 k)∧W.cell? ⟨w.heap.size+1,3,none⟩=some (.int .i64 u)∧W.cell? ⟨w.heap.size+1,4,none⟩=some (.int .i64 p)∧W.cell? ⟨w.heap.size+1,5,none⟩=some (.int .i64 b)∧W.cell? ⟨w.heap.size+1,6,none⟩=some (.int .i64 l)∧W.cell? ⟨w.heap.size+1,7,none⟩=some (.string tt)∧W.cell? ⟨w.heap.size+1,8,none⟩=some (.string m)∧W.cell? ⟨w.heap.size+1,9,none⟩=some (.int .i64 x9)∧W.cell? ⟨w.heap.size+1,10,none⟩=some (.int .i64 x10)∧W.cell? ⟨w.heap.size+1,11,none⟩=some (.int .i64 x11))∧W.cell? ⟨BU,1,none⟩=some (.int .i64 fp)) (exact kD HS.out b_1) (first|(go_at_call 149;refine(Kcp.out _ (HG5.out.trans b_27)).mono ?_;rintro e wq1 ⟨vq1,rfl,hvq1,gq1,-⟩;have GQ1:=uZ (show aA w5 wq1 from uY b_27 gq1);(first|have Na1:=uZ (show aA (w5.alloc (.cells [.slice none 0 0,.slice none 0 0].toArray 43)) wq1 from uY (uX _).drew gq1)|have Na1:=uZ (show aA (w5.alloc (.cells [.slice none 0 0,.slice none 0 0].toArray 43)) wq1 from uY (uX _) gq1)|skip);have HVq1:=uZ hvq1;clear hvq1;clear gq1)|(go_at_call 155;refine(Kwo.out _ _ (SlI.mono HVq1.out b_27)).mono ?_;rintro e wq2 ⟨vq2,rfl,hoq2,gq2⟩;have GQ2:=uZ (show aA w5 wq2 from uY b_17 gq2);have GL2:=uZ (show aA wq1 wq2 from uY b_27 gq2);(first|have Na2:=uZ (show aA (wq1.alloc (.cells [.slice none 0 0,.slice none 0 0].toArray 43)) wq2 from uY (uX _).drew gq2)|have Na2:=uZ (show aA (wq1.alloc (.cells [.slice none 0 0,.slice none 0 0].toArray 43)) wq2 from uY (uX _) gq2)|skip);have HVq2:=uZ (show SlI wq2 vq2 KW from Rd.of_own hoq2);clear hoq2;clear gq2)|(go_at_call 152;refine(Kst.out _ _ (HG5.out.trans (by repeat (first|exact uX _|exact GQ2.out|refine uJ ?_|refine uU ?_ _))) (SlI.mono HVq2.out b_27)).mono ?_;rintro e wq3 ⟨rq3,bq3,rfl,htq3,gq3⟩;have GQ3:=uZ (show aA w5 wq3 from uY (by repeat (first|exact uX _|exact GQ2.out|exact GQ1.out|refine uJ ?_|refine uU ?_ _)) gq3);have GL3:=uZ (show aA wq2 wq3 from uY b_27 gq3);(first|have Na3:=uZ (show aA (wq2.alloc (.cells [.slice none 0 0,.slice none 0 0].toArray 43)) wq3 from uY (uX _).drew gq3)|have Na3:=uZ (show aA (wq2.alloc (.cells [.slice none 0 0,.slice none 0 0].toArray 43)) wq3 from uY (uX _) gq3)|skip);(try have Pq1:=uK (((Na1.out).trans GL2.out).trans GL3.out) (aF (a:=w5) (p:=(.cells [.slice none 0 0,.slice none 0 0].toArray 43)) rfl));(try have pq10:=(aH Pq1).1);(try have pq11:=(aH Pq1).2.1);(try have pq12:=(aH Pq1).2.2.1);(try have pq13:=(aH Pq1).2.2.2);(try have Pq2:=uK ((Na2.out).trans GL3.out) (aF (a:=wq1) (p:=(.cells [.slice none 0 0,.slice none 0 0].toArray 43)) rfl));(try have pq20:=(aH Pq2).1);(try have pq21:=(aH Pq2).2.1);(try have pq22:=(aH Pq2).2.2.1);(try have pq23:=(aH Pq2).2.2.2);(try have Pq3:=uK (Na3.out) (aF (a:=wq2) (p:=(.cells [.slice none 0 0,.slice none 0 0].toArray 43)) rfl));(try have pq30:=(aH Pq3).1);(try have pq31:=(aH Pq3).2.1);(try have pq32:=(aH Pq3).2.2.1);(try have pq33:=(aH Pq3).2.2.2);obtain⟨⟨Aq3,nq3,kq3,rfl⟩,Bq3,mq3,lq3,rfl⟩:=bK htq3;have HTq3:=uZ htq3;clear htq3;clear gq3))
 all_goals exact f_5
):p:=h
theorem s_6 {p:Prop} (h:p:=by
 obtain⟨X,rvS,bvS,rfl,hX,hlo,hT,hgC⟩:=hcut;obtain⟨wD,hwD⟩:∃ wD,wD=wc:=⟨_,rfl⟩
 subst hwD;have HT:=uZ hT;have GD:=uZ (G5.out.trans hgC);have HGD:=uZ (HG5.out.trans hgC);have G5D:=uZ hgC;obtain⟨⟨A4,n4,k4,rfl⟩,B4,m4,l4,rfl⟩:=bK hT;have HX:=uZ hX;have HXL:=uZ hlo;clear hT hgC hX hlo HS Kcp Kwo Kst;obtain⟨⟨r0,b0,a0,a1,a2,a3,a4,a5,a6,a7,a8,a9,a10,a11⟩,hR⟩:=HB.out _ GD.out;obtain⟨q0,q1,z0,z1⟩:=cL hR;have HR:=uZ hR;clear hR;obtain⟨x0,x1,-,-⟩:=aQ HX.out;go_wp2_with fail;refine(Kc2.out _ _ _ HT.out).mono ?_;rintro e w6 ⟨v6,rfl,hv6,g6,-⟩;have HV6:=uZ hv6;have G56:=uZ (G5D.out.trans g6);have G6:=uZ (G5.out.trans G56.out);have HG6:=uZ (GA.out.trans G6.out);replace HX:=uZ (uK g6 HX.out);replace HT:=uZ (HT.out.mono g6);clear r0 b0 a0 a1 a2 a3 a4 a5 a6 a7 a8 a9 a10 a11 q0 q1 z0 z1 HR x0 x1 g6 hv6 Kc2;obtain⟨⟨r0,b0,a0,a1,a2,a3,a4,a5,a6,a7,a8,a9,a10,a11⟩,hR⟩:=HB.out _ G6.out;obtain⟨q0,q1,z0,z1⟩:=cL hR;have HR:=uZ hR;clear hR;exact nX.g
):p:=h
theorem h_171 {p:Prop} (h:p:=by
 exact uZ (show _∧_ from⟨(HB.out w5 G5.out).1,(bW HU5.out).2.1⟩)
):p:=h
theorem s_39 {p:Prop} (h:p:=by
 obtain⟨u0,u1,u2,-⟩:=bW HU3.out;go_wp2_with fail;refine(KL.out _ HG3.out).mono ?_;rintro e w5 ⟨rfl,g5⟩;have G5:=uZ (G3.out.trans g5);have HG5:=h_228;have HU5:=uZ (uK g5 HU3.out);clear r0 b0 a0 a1 a2 a3 a4 a5 a6 a7 a8 a9 a10 a11 q0 q1 z0 z1 HR g5 u0 u1 u2 KH KL HV3;have HS:=h_171;dsimp only;go_wp2_with fail;exact nX.g
):p:=h
def zCv:=Unit
def zHs:=Unit
theorem zHs.g {p:Prop} (_:zHs) (h:p:=by
 refine bodyPost_ret (v:=.tuple #[.agg #[.slice Ar t.roots.length cr,.slice Ab t.brs.length cb],.int .i64 7]) b_32 rfl ?_;exact dM HR.out b_53 HG6.out (HTT.out _ HG6.out)
):p:=h
theorem zCv.g {p:Prop} (_:zCv) (h:p:=by
 dsimp only;have hbb:(b != 0)=true:=by simpa using Hb0.out
 go_wp2_with fail;refine(Kh2.out _ _ HV6.out).mono ?_;rintro e w7 ⟨rfl,rfl⟩;dsimp only;have nX:zHs:=()
 exact s_49
):p:=h
def zDq:=Unit
def zG0:=Unit
theorem zG0.g {p:Prop} (_:zG0) (h:p:=by
 go_cut [13] from 62 to 73 (fun s13 wx=>mO w5 (T1) s13 wx)
 case first =>
  exact e_5
 case rest =>
  skip;have nX:zCv:=()
  exact s_6
):p:=h
theorem zDq.g {p:Prop} (_:zDq) (h:p:=by
 have nX:zG0:=()
 exact s_39
):p:=h
theorem c_6 {p:Prop} (h:p:=by
 have nX:zDq:=()
 exact s_9
):p:=h
theorem h_43 {p:Prop} (h:p:=by
 exact fun kv W (hW:aA w W) (h:SlI W kv (aI o.unit (aB t fb.parent)))=>iK t fb.parent (aI o.unit (aB t fb.parent)) rv bv kv W (hr.mono hW) (hv.mono hW) hf hrl h
):p:=h
theorem h_82 {p:Prop} (h:p:=by
 exact fun rx bx W (h:dF W rx bx (bB t o fb))=>bJ (bB t o fb).roots (bB t o fb).brs o.parent rx bx W h.1 h.2 hf1.1 hf1.2
):p:=h
theorem h_131 {p:Prop} (h:p:=by
 exact fun W (hW:aA w W)=>bJ t.roots t.brs fb.parent rv bv W (hr.mono hW) (hv.mono hW) hf hrl
):p:=h
theorem h_148 {p:Prop} (h:p:=by
 exact fun v W (h:SlI W v (aB t fb.parent))=>eZ (aB t fb.parent) o.unit v W h hkl
):p:=h
theorem h_186 {p:Prop} (h:p:=by
 exact fun v W h=>dI (aB (bB t o fb) o.parent) o.before v W h
):p:=h
theorem h_222 {p:Prop} (h:p:=by
 exact jG (o:=o) (fb:=fb) hf hrl
):p:=h
theorem s_5 {p:Prop} (h:p:=by
 have kB:=h_130;rw[show eC ⟨t.roots,t.brs⟩ o.unit=_ from dP hT (.inr ⟨fb,hin.1,hin.2⟩)] at kB;clear hin;have kH:=h_199;rw[decide_eq_false hc] at kH;have kL:=h_144;rw[hl] at kL;have kcp:=h_131;rw[show aB ⟨t.roots,t.brs⟩ fb.parent=aB t fb.parent from rfl] at kcp;have hkl:=dK hf hrl fb.parent;have kwo:=h_148;have kst:=h_43;rw[show iD t fb.parent (aI o.unit (aB t fb.parent))=bB t o fb from rfl] at kst;have hf1:=h_222;have kc2:=h_82;rw[show aB ⟨(bB t o fb).roots,(bB t o fb).brs⟩ o.parent=aB (bB t o fb) o.parent from rfl] at kc2;have kh2:=h_186;exact nX.g
):p:=h
theorem s_38 {p:Prop} (h:p:=by
 generalize bB t o fb=T1 at *;generalize aB T1 o.parent=KS at *;generalize aI o.unit (aB t fb.parent)=KW at *;generalize aB t fb.parent=KP at *;generalize bA t o.unit=BL at *;exact nX.g
):p:=h
def zAj:=Unit
def zC3:=Unit
def zDz:=Unit
def zGp:=Unit
theorem zGp.g {p:Prop} (_:zGp) (h:p:=by
 exact c_6
):p:=h
theorem zDz.g {p:Prop} (_:zDz) (h:p:=by
 generalize w1.heap.size=BU at HU2 HBL ⊢;have nX:zGp:=()
 exact s_37
):p:=h
def zF6:=Unit
theorem zF6.g {p:Prop} (_:zF6) (h:p:=by
 have nX:zDz:=()
 exact s_10
):p:=h
theorem zC3.g {p:Prop} (_:zC3) (h:p:=by
 have HBL:=uZ g1.size;have nX:zF6:=()
 exact s_31
):p:=h
theorem zAj.g {p:Prop} (_:zAj) (h:p:=by
 obtain⟨pi,pp,pl,pt,pm,pk⟩:=pq;refine(KF.out _ GA.out).mono ?_;rintro e w1 ⟨rfl,g1⟩;have G1:=h_128;have HG1:=h_225;have HBU:=h_106;have nX:zC3:=()
 exact s_7
):p:=h
def zB0:=Unit
theorem zB0.g {p:Prop} (_:zB0) (h:p:=by
 obtain⟨fi,fp,fl,ft,fm,fk⟩:=fb;unfold Opn.agg;unfold Opn.cells at HBX;dsimp only at HBX kF kG kB kH kL kcp kwo kst kc2 kh2 hb0 ⊢;have KF:=uZ kF;have KG:=uZ kG;have KB:=uZ kB;have KH:=uZ kH;have KL:=uZ kL;have Kcp:=uZ kcp;have Kwo:=uZ kwo;have Kst:=uZ kst;have Kc2:=uZ kc2;have Kh2:=uZ kh2;have Hb0:=uZ hb0;clear kF kG kB kH kL kcp kwo kst kc2 kh2 hb0;have GA:=h_8;have HB:=h_137;clear HBX;go_enter Tryz.func102,Tryz.ntmps102;have nX:zAj:=()
 exact s_1
):p:=h
def zCn:=Unit
def zGs:=Unit
theorem zGs.g {p:Prop} (_:zGs) (h:p:=by
 have nX:zB0:=()
 exact s_4
):p:=h
theorem zCn.g {p:Prop} (_:zCn) (h:p:=by
 rw[decide_eq_false hnb] at kh2;clear hnb;clear hf1 hkl hc hl ho hT hm hp;have nX:zGs:=()
 exact s_38
):p:=h
def zFj:=Unit
theorem zFj.g {p:Prop} (_:zFj) (h:p:=by
 have nX:zCn:=()
 exact s_5
):p:=h
theorem aCh (t:Tr) (o:Opn) (rv bv:Value) (w:World) (hr:SlI w rv t.roots) (hv:bQ w bv t.brs) (hf:cF t.brs) (hrl:t.roots.length≤1000000) (hT:aM t) (hm:∀ i (h:i<t.brs.length),t.brs[i].mark.size≤9223372036854775807) {fb:Br} (ho:aE t.brs o.unit=some fb) {pq:Br} (hp:aE t.brs o.parent=some pq) (hc:o.parent∉bA t o.unit) (hl:mZ t o.parent fb.level=0) (hb0:o.before≠0) (hnb:o.before∉aB (bB t o fb) o.parent):Calls Tryz.prog 102 #[.agg #[rv,bv],o.agg] w (bU (t,7) w):=by
 have nX:zFj:=()
 exact s_24
def zAk:=Unit
def zC4:=Unit
def zD0:=Unit
def zGb:=Unit
theorem zGb.g {p:Prop} (_:zGb) (h:p:=by
 exact c_6
):p:=h
theorem zD0.g {p:Prop} (_:zD0) (h:p:=by
 generalize w1.heap.size=BU at HU2 HBL ⊢;have nX:zGb:=()
 exact s_32
):p:=h
def zFo:=Unit
theorem zFo.g {p:Prop} (_:zFo) (h:p:=by
 have nX:zD0:=()
 exact s_10
):p:=h
theorem zC4.g {p:Prop} (_:zC4) (h:p:=by
 have HBL:=uZ g1.size;have nX:zFo:=()
 exact s_25
):p:=h
theorem zAk.g {p:Prop} (_:zAk) (h:p:=by
 refine(KF.out _ GA.out).mono ?_;rintro e w1 ⟨rfl,g1⟩;have G1:=h_128;have HG1:=h_225;have HBU:=h_106;have nX:zC4:=()
 exact s_7
):p:=h
def zB1:=Unit
theorem zB1.g {p:Prop} (_:zB1) (h:p:=by
 obtain⟨fi,fp,fl,ft,fm,fk⟩:=fb;unfold Opn.agg;unfold Opn.cells at HBX;dsimp only at HBX kF kG kB hp kH kL kcp kwo kst kc2 kh2 hb0 ⊢;have KF:=uZ kF;have KG:=uZ kG;have KB:=uZ kB;have Hp:=uZ hp;have KH:=uZ kH;have KL:=uZ kL;have Kcp:=uZ kcp;have Kwo:=uZ kwo;have Kst:=uZ kst;have Kc2:=uZ kc2;have Kh2:=uZ kh2;have Hb0:=uZ hb0;clear kF kG kB hp kH kL kcp kwo kst kc2 kh2 hb0;have GA:=h_8;have HB:=h_137;clear HBX;go_enter Tryz.func102,Tryz.ntmps102;have nX:zAk:=()
 exact s_1
):p:=h
def zCo:=Unit
def zGt:=Unit
theorem zGt.g {p:Prop} (_:zGt) (h:p:=by
 have nX:zB1:=()
 exact s_4
):p:=h
theorem zCo.g {p:Prop} (_:zCo) (h:p:=by
 rw[decide_eq_false hnb] at kh2;clear hnb;clear hf1 hkl hc hl ho hT hm hn;have nX:zGt:=()
 exact s_38
):p:=h
def zFc:=Unit
theorem zFc.g {p:Prop} (_:zFc) (h:p:=by
 have nX:zCo:=()
 exact s_5
):p:=h
theorem aCg (t:Tr) (o:Opn) (rv bv:Value) (w:World) (hr:SlI w rv t.roots) (hv:bQ w bv t.brs) (hf:cF t.brs) (hrl:t.roots.length≤1000000) (hT:aM t) (hm:∀ i (h:i<t.brs.length),t.brs[i].mark.size≤9223372036854775807) {fb:Br} (ho:aE t.brs o.unit=some fb) (hp:o.parent=0) (hn:aE t.brs o.parent=none) (hc:o.parent∉bA t o.unit) (hl:mZ t o.parent fb.level=0) (hb0:o.before≠0) (hnb:o.before∉aB (bB t o fb) o.parent):Calls Tryz.prog 102 #[.agg #[rv,bv],o.agg] w (bU (t,7) w):=by
 have nX:zFc:=()
 exact s_22
end Go.Proofs.YtdochkemaiokfaaGreat



