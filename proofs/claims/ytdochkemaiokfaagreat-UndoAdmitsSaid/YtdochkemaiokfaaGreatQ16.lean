/- Lemmas on what the functions of the program and of the library compute: UnM, PlainUb, UnA, Ed3, ClB, Es10, Es5, DelB. The conditions stand at each. -/
import Derived.Laws.Rows
import Derived.Test.YtdochkemaiokfaaGreatQ10
import Derived.Test.YtdochkemaiokfaaGreatQ1
import Derived.Test.YtdochkemaiokfaaGreatQ5
import Derived.Sort.LoopGhostIn
import Derived.Maps.OwnSet
import Derived.Test.YtdochkemaiokfaaGreatQ15
import Derived.Test.YtdochkemaiokfaaGreatQ2
import Derived.Test.YtdochkemaiokfaaGreatQ7
import Derived.Deep.Onto
import Derived.Lib.LazyBuf
import Derived.Test.YtdochkemaiokfaaGreatQ3
import Derived.Deep.CutRange
import Derived.Deep.RegionHeld3
set_option maxHeartbeats 16000000
set_option maxRecDepth 100000
set_option linter.all false
namespace Go.Proofs.YtdochkemaiokfaaGreat
open Go.RowKit
theorem h_174 {p:Prop} (h:p:=by
 exact(show 0<cs.length from by
  rw[hl]
  exact Nat.mul_pos hpos hk)
):p:=h
theorem dO (W:World) (b o:Nat) (v:Value):W.grownBy (W.setCell ⟨b,o,none⟩ v) (some b) :=
 ⟨rfl,rfl,rfl,by simp,fun k _ hne=>Below.heap_setCell _ _ _ _ (fun e=>hne (by rw[e]))⟩
theorem aO (a:World) (p:Obj):(a.alloc p).heap[a.heap.size]? = some p:=World.alloc_heap_new a p
theorem aD {W W':World} (g:aA W W') {X:Nat} {o:Obj} (h:W.heap[X]? = some o):W'.heap[X]? = some o:=by
 rw[g.block X (Array.getElem?_eq_some_iff.1 h).1];exact h
theorem aC {W:World} {P i:Nat} {t:TypeId} {fr:Nat × Nat} {xs:Array Value} {x:Value} (h:W.heap[P]? = some (.cells xs t fr)) (hx:xs[i]? = some x):W.cell? ⟨P,i,none⟩=some x:=by
 simp[World.cell?,h,hx]
theorem aS {W:World} {P i:Nat} {t:TypeId} {xs:Array Value} (h:W.heap[P]? = some (.cells xs t (0,0))):W.frozen? ⟨P,i,none⟩=false:=by
 simp[World.frozen?,h]
theorem aTa {W:World} {P:Nat} {t:TypeId} {x0 x1:Value} (h:W.heap[P]? = some (.cells #[x0,x1] t (0,0))) (y0 y1:Value):((W.setCell ⟨P,0,none⟩ y0).setCell ⟨P,1,none⟩ y1).heap[P]? = some (.cells #[y0,y1] t (0,0)):=by
 have h1:=heap_setCell_same W P 0 _ t y0 h;have h2:=heap_setCell_same _ P 1 _ t y1 h1;simpa using h2
theorem aXd {W:World} {P:Nat} {t:TypeId} {x0 x1 x2:Value} (h:W.heap[P]? = some (.cells #[x0,x1,x2] t (0,0))) (y0 y1 y2:Value):(((W.setCell ⟨P,0,none⟩ y0).setCell ⟨P,1,none⟩ y1).setCell ⟨P,2,none⟩ y2).heap[P]? = some (.cells #[y0,y1,y2] t (0,0)):=by
 have h1:=heap_setCell_same W P 0 _ t y0 h;have h2:=heap_setCell_same _ P 1 _ t y1 h1;have h3:=heap_setCell_same _ P 2 _ t y2 h2;simpa using h3
theorem vL {W0 W:World} {P:Nat} (g:aA W0 W) (hp:W0.heap.size≤P) (y0 y1 y2:Value):aA W0 (((W.setCell ⟨P,0,none⟩ y0).setCell ⟨P,1,none⟩ y1).setCell ⟨P,2,none⟩ y2) :=
 ((g.setCell (p:=⟨P,0,none⟩) hp _).setCell (p:=⟨P,1,none⟩) hp _).setCell (p:=⟨P,2,none⟩) hp _
theorem aYj {W:World} {P:Nat} {t:TypeId} {x0 x1 x2 x3 x4 x5 x6 x7 x8 x9 x10 x11:Value} (h:W.heap[P]? = some (.cells #[x0,x1,x2,x3,x4,x5,x6,x7,x8,x9,x10,x11] t (0,0))) (y0 y1 y2 y3 y4 y5 y6 y7 y8 y9 y10 y11:Value):((((((((((((W.setCell ⟨P,0,none⟩ y0).setCell ⟨P,1,none⟩ y1).setCell ⟨P,2,none⟩ y2).setCell ⟨P,3,none⟩ y3).setCell ⟨P,4,none⟩ y4).setCell ⟨P,5,none⟩ y5).setCell ⟨P,6,none⟩ y6).setCell ⟨P,7,none⟩ y7).setCell ⟨P,8,none⟩ y8).setCell ⟨P,9,none⟩ y9).setCell ⟨P,10,none⟩ y10).setCell ⟨P,11,none⟩ y11).heap[P]? = some (.cells #[y0,y1,y2,y3,y4,y5,y6,y7,y8,y9,y10,y11] t (0,0)):=by
 have h1:=heap_setCell_same W P 0 _ t y0 h;have h2:=heap_setCell_same _ P 1 _ t y1 h1;have h3:=heap_setCell_same _ P 2 _ t y2 h2;have h4:=heap_setCell_same _ P 3 _ t y3 h3;have h5:=heap_setCell_same _ P 4 _ t y4 h4;have h6:=heap_setCell_same _ P 5 _ t y5 h5;have h7:=heap_setCell_same _ P 6 _ t y6 h6;have h8:=heap_setCell_same _ P 7 _ t y7 h7;have h9:=heap_setCell_same _ P 8 _ t y8 h8;have h10:=heap_setCell_same _ P 9 _ t y9 h9;have h11:=heap_setCell_same _ P 10 _ t y10 h10;have h12:=heap_setCell_same _ P 11 _ t y11 h11;simpa using h12
theorem aMv {W0 W:World} {P:Nat} (g:aA W0 W) (hp:W0.heap.size≤P) (y0 y1 y2 y3 y4 y5 y6 y7 y8 y9 y10 y11:Value):aA W0 ((((((((((((W.setCell ⟨P,0,none⟩ y0).setCell ⟨P,1,none⟩ y1).setCell ⟨P,2,none⟩ y2).setCell ⟨P,3,none⟩ y3).setCell ⟨P,4,none⟩ y4).setCell ⟨P,5,none⟩ y5).setCell ⟨P,6,none⟩ y6).setCell ⟨P,7,none⟩ y7).setCell ⟨P,8,none⟩ y8).setCell ⟨P,9,none⟩ y9).setCell ⟨P,10,none⟩ y10).setCell ⟨P,11,none⟩ y11) :=
 (((((((((((g.setCell (p:=⟨P,0,none⟩) hp _).setCell (p:=⟨P,1,none⟩) hp _).setCell (p:=⟨P,2,none⟩) hp _).setCell (p:=⟨P,3,none⟩) hp _).setCell (p:=⟨P,4,none⟩) hp _).setCell (p:=⟨P,5,none⟩) hp _).setCell (p:=⟨P,6,none⟩) hp _).setCell (p:=⟨P,7,none⟩) hp _).setCell (p:=⟨P,8,none⟩) hp _).setCell (p:=⟨P,9,none⟩) hp _).setCell (p:=⟨P,10,none⟩) hp _).setCell (p:=⟨P,11,none⟩) hp _
theorem aCo {W:World} {base base':Nat} {e:TypeId} {size:Nat} {v:Value} {k:Nat} {xs:List Value} (h:W.ownsRow base e size v k xs) (hb:base'≤base):W.ownsRow base' e size v k xs:=by
 obtain⟨h1,h2|⟨g,cap,cur,h3,h4,h5⟩⟩:=h
 ·exact⟨h1,.inl h2⟩
 ·exact⟨h1,.inr ⟨g,cap,cur,h3,Nat.le_trans hb h4,h5⟩⟩
def jV (W:World) (X:Nat):Prop:=∀ o c,W.cell? ⟨X,o,none⟩=some c→(∀ q n,c≠.int q n)∧∀ s,c≠.string s
theorem cH {W:World} {X:Nat} {t:TypeId} {fr:Nat × Nat} {xs:Array Value} (h:W.heap[X]? = some (.cells xs t fr)) (hx:∀ c∈xs.toList,(∀ q n,c≠.int q n)∧∀ s,c≠.string s):jV W X:=by
 intro o c hc;simp[World.cell?,h] at hc
 exact hx c (by
  have:=Array.mem_of_getElem? hc
  simpa using this)
theorem oF {W:World} {X:Nat} (h:∀ o,W.heap[X]? = some o→o.isCells=false):jV W X:=by
 intro o c hc;exfalso;unfold World.cell? at hc
 cases hh:W.heap[X]? with
 | none=>simp[hh] at hc
 | some ob =>
  have:=h ob hh;cases ob<;>simp_all [Obj.isCells]
def dB (W W':World):Prop:=∃ row,W.grownBy W' row∧∀ X,row=some X→jV W X
theorem Rd.turn {W W':World} {k:Nat} {v:Value} {cs:List Value} (h:Rd W k v cs) (hk:0<k) (hi:∀ c,cs[0]? = some c→(∃ q n,c=.int q n)∨∃ s,c=.string s) (hg:dB W W'):Rd W' k v cs:=by
 obtain⟨A,n,c,rfl,hl,hn,hc,h0⟩:=h;obtain⟨row,hg,hr⟩:=hg;refine⟨A,n,c,rfl,hl,hn,hc,fun hpos=>?_⟩;obtain⟨b,off,rfl,hb,hcell⟩:=h0 hpos
 have hne:some b≠row:=by
  intro e;have hlen:=h_174;have h1:=hcell 0 cs[0] (by rw[List.getElem?_eq_getElem hlen]);obtain⟨n1,n2⟩:=hr b e.symm _ _ h1;rcases hi cs[0] (by rw[List.getElem?_eq_getElem hlen]) with ⟨q,n,e⟩|⟨s,e⟩
  ·exact n1 q n e
  ·exact n2 s e
 exact⟨b,off,rfl,Nat.lt_of_lt_of_le hb hg.size,fun j u hu=>(World.cell?_of_block (hg.block b hb hne)).trans (hcell j u hu)⟩
theorem mI {α:Type} {f:α→List Value} {l:List α} (hf:∀ x,(∃ q n,(f x)[0]? = some (.int q n))∨∃ s,(f x)[0]? = some (.string s)):∀ c,(l.flatMap f)[0]? = some c→(∃ q n,c=.int q n)∨∃ s,c=.string s:=fun c hc=>by
 cases l with
 | nil=>cases hc
 | cons a r =>
  rw[List.flatMap_cons] at hc;rcases hf a with ⟨q,n,h⟩|⟨s,h⟩
  ·rw[List.getElem?_append_left ((List.getElem?_eq_some_iff.1 h).1),h] at hc
   exact .inl ⟨q,n,(Option.some.inj hc).symm⟩
  ·rw[List.getElem?_append_left ((List.getElem?_eq_some_iff.1 h).1),h] at hc
   exact .inr ⟨s,(Option.some.inj hc).symm⟩
section
variable {W W':World}
theorem SlI.turn {v:Value} {l:List Int} (h:SlI W v l) (hg:dB W W'):SlI W' v l:=Rd.turn h b_53 (mI fun x=>.inl ⟨_,x,rfl⟩) hg
theorem SlO.turn {v:Value} {l:List Opn} (h:SlO W v l) (hg:dB W W'):SlO W' v l:=Rd.turn h b_53 (mI fun x=>.inl ⟨_,_,rfl⟩) hg
theorem SlC.turn {v:Value} {l:List Cm} (h:SlC W v l) (hg:dB W W'):SlC W' v l:=Rd.turn h b_53 (mI fun x=>.inl ⟨_,_,rfl⟩) hg
theorem SlM.turn {v:Value} {l:List Mk} (h:SlM W v l) (hg:dB W W'):SlM W' v l:=Rd.turn h b_53 (mI fun x=>.inr ⟨_,rfl⟩) hg
theorem SlB.turn {v:Value} {l:List BrC} (h:SlB W v l) (hg:dB W W'):SlB W' v l:=Rd.turn h b_53 (mI fun x=>.inl ⟨_,_,rfl⟩) hg
theorem dF.turn {rv bv:Value} {t:Tr} (h:dF W rv bv t) (hg:dB W W'):dF W' rv bv t:=by
 obtain⟨h1,cs,h2,h3,h4⟩:=h;exact⟨h1.turn hg,cs,h2.turn hg,h3,fun i hi hi'=>⟨(h4 i hi hi').1,(h4 i hi hi').2.turn hg⟩⟩
theorem dB.grew (h:aA W W'):dB W W':=⟨none,dA h none,fun _ e=>by cases e⟩
theorem dB.set {X:Nat} (hX:jV W X) (o:Nat) (v:Value):dB W (W.setCell ⟨X,o,none⟩ v):=⟨some X,dO W X o v,fun _ e=>by cases e;exact hX⟩
end
theorem vS {W:World} {X:Nat} {a b c d e g i j k m n p:Value} {t:TypeId} {fr:Nat × Nat} (h:W.heap[X]? = some (.cells #[a,b,c,d,e,g,i,j,k,m,n,p] t fr)):W.cell? ⟨X,0,none⟩=some a∧W.cell? ⟨X,1,none⟩=some b∧W.cell? ⟨X,2,none⟩=some c∧W.cell? ⟨X,3,none⟩=some d∧W.cell? ⟨X,4,none⟩=some e∧W.cell? ⟨X,5,none⟩=some g∧W.cell? ⟨X,6,none⟩=some i∧W.cell? ⟨X,7,none⟩=some j∧W.cell? ⟨X,8,none⟩=some k∧W.cell? ⟨X,9,none⟩=some m∧W.cell? ⟨X,10,none⟩=some n∧W.cell? ⟨X,11,none⟩=some p:=⟨aC h rfl,aC h rfl,aC h rfl,aC h rfl,aC h rfl,aC h rfl,aC h rfl,aC h rfl,aC h rfl,aC h rfl,aC h rfl,aC h rfl⟩
theorem nW (l:List Opn) (o:Opn) (id:Int):eY (l++[o]) id=(eY l id != (o.kind == 6 && o.unit == id)):=by
 unfold eY;rw[List.countP_append,List.countP_singleton];cases h:(o.kind == 6 && o.unit == id)
 ·simp
 ·rw[if_pos rfl]
  rcases Nat.mod_two_eq_zero_or_one (l.countP fun o=>o.kind == 6 && o.unit == id) with k|k
  ·have:(l.countP (fun o=>o.kind == 6 && o.unit == id)+1) % 2=1:=by omega
   rw[this,k];rfl
  ·have:(l.countP (fun o=>o.kind == 6 && o.unit == id)+1) % 2=0:=by omega
   rw[this,k];rfl
theorem aDr (l:List Opn) (o x:Opn):cE (l++[o]) x=(x.kind != 6 && (eY l x.id == (o.kind == 6 && o.unit == x.id))):=by
 unfold cE;rw[nW];cases eY l x.id<;>cases (o.kind == 6 && o.unit == x.id)<;>rfl
theorem rC {l:List Opn} {o:Opn} (h:o.kind≠6) (x:Opn):cE (l++[o]) x=cE l x:=by
 rw[aDr];unfold cE;have:(o.kind == 6)=false:=by simpa using h
 rw[this];cases eY l x.id<;>rfl
def vJ (l:List Opn):List (Int × Opn):=((List.range l.length).map fun(i:Nat)=>(i:Int)).zip l
theorem fU (l:List Opn):cN l=(vJ l).filter fun p=>cE l p.2:=rfl
theorem aRf (l:List Opn) (o:Opn):vJ (l++[o])=vJ l++[((l.length:Int),o)]:=by
 unfold vJ;rw[List.length_append,List.length_singleton,List.range_succ,List.map_append,List.zip_append b_54];rfl
theorem aMs {l:List Opn} {p:Int × Opn} (h:p∈vJ l):p.2∈l:=(List.of_mem_zip h).2
theorem aAr {l:List Opn} {o:Opn} (h:o.kind≠6) (hn:∀ x∈l,x.kind=6→x.unit≠o.id):cN (l++[o])=cN l++[((l.length:Int),o)]:=by
 rw[fU,fU,aRf,List.filter_append]
 have h0:eY l o.id=false:=by
  unfold eY
  rw[List.countP_eq_zero.2 (fun x hx=>by
   simp only [Bool.and_eq_true,beq_iff_eq,not_and]
   exact hn x hx)]
  rfl
 congr 1
 ·exact List.filter_congr fun p _=>rC h p.2
 ·have:cE (l++[o]) o=true:=by
   rw[rC h];unfold cE;rw[h0];simpa using h
  simp[this]
end Go.Proofs.YtdochkemaiokfaaGreat

namespace Go.Proofs.YtdochkemaiokfaaGreat
open Go.RowKit Go.Shelf Go.Maps
attribute [local go_sem] Oper.semAt_some
theorem c_53 {p:Prop} (h:p:=by
 gi_wp2_with fail
 refine⟨fun f h=>(by cases h),?_⟩
 gi_wp2
 gi_roundg (l.length-(kk+1))
 case measure=>omega
 case rel=>exact⟨kk+1,by omega,by omega,by go_num,(show Aside _ from OX.out.alloc _),(show Aside _ from BX.out.alloc _),(show Aside _ from HGA.out),(show Aside _ from HS.out)⟩
):p:=h
structure WfO (o:Opn):Prop where
 id:(Lit.int .i64 o.id).wf=true
 kind:(Lit.int .i64 o.kind).wf=true
 unit:(Lit.int .i64 o.unit).wf=true
 mark:o.mark.size≤maxLen
theorem aTl:Keyed Tryz.prog 3:=int_keyed Tryz.underlying3
theorem sE (A:Option Addr) (n c:Nat) (w:World):Calls Tryz.prog 46 #[.slice A n c] w fun e w'=>e=.returned (.func (.func 69) #[] #[.pointer (some ⟨w.heap.size,0,none⟩)])∧w.alloc (.cells #[.slice A n c] 22)=w':=by
 go_enter Tryz.func46,Tryz.ntmps46;exact c_130
theorem oX {P:Program} {e:TypeId} (he:P.underlying e=some .bool) {v:Value} {z:DataW Unit × List MemPlace} (h:plainElem P e v=some z):∃ b,v=.bool b∧z=(.lit (.bool b),[]):=by
 unfold plainElem at h;rw[he] at h;cases v<;>simp at h
 obtain rfl:=h;exact⟨_,rfl,rfl⟩
def aWs (l:List Opn) (D:DataW Unit):Prop:=∀ id:Int,D.atKey (.int .i64 id) (.lit (.bool false))=.lit (.bool (eY l id))
theorem aOx:aWs [] (.map []):=fun _=>rfl
theorem aJg {l:List Opn} {D:DataW Unit} (h:aWs l D) {o:Opn} (hk:(o.kind == 6)=false):aWs (l++[o]) D:=fun id=>by
 rw[h id,nW,hk];cases eY l id<;>rfl
theorem aOw {l:List Opn} {D:DataW Unit} (h:aWs l D) (hD:IsMap D) {o:Opn} (hk:(o.kind == 6)=true):aWs (l++[o]) (D.put (.int .i64 o.unit) (.lit (.bool (!eY l o.unit)))):=fun id=>by
 rw[nW,hk,Bool.true_and];by_cases he:id=o.unit
 ·subst he
  rw[atKey_put_same hD (show WideAt.IsKeyLit (.int .i64 o.unit) from trivial),beq_self_eq_true];cases eY l o.unit<;>rfl
 ·rw[atKey_put_other (by simpa using he),h id,beq_eq_false_iff_ne.2 (fun e=>he e.symm)]
  cases eY l id<;>rfl
theorem yS {l:List Opn} {D:DataW Unit} (h:aWs l D) {w:World} {M n:Nat} (ho:w.ownsMap Tryz.prog 3 (plainElem Tryz.prog 4) M n D) {id:Int} (hw:(Lit.int .i64 id).wf=true) :
  (Instr.lookup 102 (.map (some M)) (.int .i64 id) false).run Tryz.prog w=.ok (.bool (eY l id)) w:=by
 have hz:(zeroValue 4).run Tryz.prog w=.ok (.bool false) w:=by kernel_rfl
 obtain⟨v,ps,hrun,hv⟩:=ho.lookup aTl Tryz.underlying102 hz (plainElem_bool Tryz.underlying4 false) (keyOf_int_mk (P:=Tryz.prog) Tryz.underlying3 hw);obtain⟨b,rfl,hb⟩:=oX Tryz.underlying4 hv;simp only [Prod.mk.injEq] at hb;have:=hb.1;rw[h id] at this;simp only [DataW.lit.injEq,Lit.bool.injEq] at this;rw[hrun,this]
theorem gT {w w':World} {k e:TypeId} {b n:Nat} {D:DataW Unit} (h:w.ownsMap Tryz.prog k (plainElem Tryz.prog e) b n D) (g:aA w w'):w'.ownsMap Tryz.prog k (plainElem Tryz.prog e) b n D:=by
 obtain⟨es,clock,hb,r⟩:=h;exact⟨es,clock,by rw[g.block b (Array.getElem?_eq_some_iff.1 hb).1];exact hb,r⟩
theorem aZm {n₀ B:Nat} {X:Nat→Prop} {w w':World} {k e:TypeId} {b n:Nat} {D:DataW Unit} (h:w.ownsMap Tryz.prog k (plainElem Tryz.prog e) b n D) (g:KpS n₀ B X w w'):w'.ownsMap Tryz.prog k (plainElem Tryz.prog e) b n D:=by
 obtain⟨es,clock,hb,r⟩:=h;exact⟨es,clock,g.maps b es clock hb,r⟩
def aIj (l:List Opn) (k:Nat):List (Int × Opn):=((vJ l).take k).filter fun p=>cE l p.2
theorem qI (l:List Opn):(vJ l).length=l.length:=by unfold vJ;simp
theorem aVx (l:List Opn) (k:Nat) (h:k<l.length):(vJ l)[k]'(by rw[qI];exact h)=((k:Int),l[k]):=by
 unfold vJ;simp
theorem aNp (l:List Opn) (k:Nat) (h:k<l.length):aIj l (k+1)=aIj l k++if cE l l[k]=true then[((k:Int),l[k])] else[]:=by
 unfold aIj;rw[List.take_succ_eq_append_getElem (by rw[qI];exact h),List.filter_append,aVx l k h]
 congr 1
 cases hc:cE l l[k]
 ·simp[hc]
 ·simp[hc]
theorem aRy (l:List Opn):aIj l l.length=cN l:=by
 unfold aIj;rw[List.take_of_length_le (by rw[qI];exact Nat.le_refl _)];rfl
theorem aRx (l:List Opn) (k:Nat):aIj l k <+: cN l:=by
 unfold aIj;exact List.IsPrefix.filter _ (List.take_prefix k (vJ l))
theorem aGq (l:List Opn) (hwf:∀ i (h:i<l.length),WfO l[i]) (lv:Value) (w0:World) (hv:SlO w0 lv l) (hlen:l.length≤1000000) (X:Nat→Prop) (B LB lp:Nat) (hLB:LB<B) (hLX:¬ X LB) (J Jx:List (Int × Opn)→World→Prop) (W:World) (hG:aA w0 W)
  (hJ:∀ s W1 W2,J s W1→aA W1 W2→J s W2)
  (hY:∀ m pre x W1,J pre W1→(pre++[x]) <+: cN l→YieldAt Fence.wide m Tryz.prog lp #[.int .i64 x.1,x.2.agg] W1 fun e W'=>(e=.returned (.bool true)∧J (pre++[x]) W'∧KpS w0.heap.size B X W1 W')∨(e=.returned (.bool false)∧Jx (pre++[x]) W'))
  (h0:J [] W) (hb:Boxed W LB 22 lv) :
  Calls Tryz.prog 69 #[.func (.yield lp) #[] #[],.pointer (some ⟨LB,0,none⟩)] W fun e W'=>(∃ v,e=.returned v)∧(J (cN l) W'∨∃ pre,pre <+: cN l∧Jx pre W'):=by
 have hmm:=@run_makeMap Tryz.prog;obtain⟨A,c,rfl,hlc,hc,hr⟩:=hv.open_;unfold maxLen at hc;have HR:=uZ hr;have HWF:=uZ hwf;have HJ:=uZ hJ;have HY:=uZ hY;have HG:=uZ hG;have H0:=uZ h0;have HB:=uZ hb;have HLX:=uZ hLX;have HCS:=uZ (aNp l);have HCA:=uZ (aRy l);have HCP:=uZ (aRx l);have HTS:=uZ (fun k (h:k<l.length)=>List.take_succ_eq_append_getElem h);have b0:=hb.cell;clear hr hwf hJ hY hG h0 hb hv hLX;refine(callsIn_wide (n:=9)).1 ?_;refine callsIn_of_wp Tryz.func69 rfl trivial ?_ rfl;simp only [Tryz.ntmps69,List.size_toArray,List.length_cons,List.length_nil,Nat.reduceAdd,Nat.reduceSub,Array.replicate_succ,Array.replicate_zero,List.push_toArray,List.append_toArray,List.nil_append,List.cons_append];refine wpIn_wide.2 ?_;have b1:=uQ ((uX W).alloc (.map #[] 0)) b0;go_wp2;go_loopg [11] l.length (fun gg s11 wr=>∃ kk:Nat,kk≤l.length∧l.length-kk≤gg∧s11=.int .i64 kk∧Aside (∃ D,wr.ownsMap Tryz.prog 3 (plainElem Tryz.prog 4) W.heap.size kk D∧aWs (l.take kk) D)∧Aside (aA W wr))
 case atStart=>exact⟨0,by omega,by omega,rfl,(show Aside _ from⟨_,World.ownsMap_made _ _ _ _,aOx⟩),(show Aside _ from(uX W).alloc _)⟩
 case round =>
  obtain⟨kk,hkk,hgk,rfl,OW,GW⟩:=hrel;obtain⟨D,hown,hund⟩:=OW.out;have OM:=uZ hown;have UM:=uZ hund;clear OW hown hund b0 b1;by_cases hlt:kk<l.length
  case pos =>
   have hltz:=h_201;obtain⟨b,off,rfl,hbb,hcell⟩:=HR.out b_53;obtain⟨c0,c1,c2,c3,c4,c5,c6,c7,c8,c9,c10,c11⟩:=hcell wr (HG.out.trans GW.out) kk hlt;have hw:=(HWF.out kk hlt).unit;have HT:=uZ (HTS.out kk hlt);generalize l[kk]=y at hw c0 c1 c2 c3 c4 c5 c6 c7 c8 c9 c10 c11 HT;clear hcell;cases hk:(y.kind == 6)
   ·have HU:=uZ (aJg UM.out hk)
    obtain⟨y0,y1,y2,y3,y4,y5,y6,y7,y8,y9,y10,y11⟩:=y;dsimp only at hk hw c0 c1 c2 c3 c4 c5 c6 c7 c8 c9 c10 c11;go_wp2;go_roundg (l.length-(kk+1))
    case measure=>omega
    case rel=>exact⟨kk+1,by omega,by omega,by go_num,(show Aside _ from⟨D,(OM.out.alloc _).mono b_53,by rw[HT.out];exact HU.out⟩),(show Aside _ from GW.out.alloc _)⟩
   ·have HU:=uZ (aOw UM.out OM.out.isMap hk)
    have HL:=uZ (fun(WX:World) (O:WX.ownsMap Tryz.prog 3 (plainElem Tryz.prog 4) W.heap.size kk D)=>yS UM.out O hw);have HKey:=uZ (keyOf_int_mk (P:=Tryz.prog) Tryz.underlying3 hw);generalize eY (l.take kk) y.unit=q at HU HL;obtain⟨y0,y1,y2,y3,y4,y5,y6,y7,y8,y9,y10,y11⟩:=y;dsimp only at hk hw c0 c1 c2 c3 c4 c5 c6 c7 c8 c9 c10 c11 HL HU HKey;have hlook:=HL.out _ (OM.out.alloc (.cells #[.int .i64 y0,.int .i64 y1,.int .i64 y2,.int .i64 y3,.int .i64 y4,.int .i64 y5,.int .i64 y6,.string y7,.string y8,.int .i64 y9,.int .i64 y10,.int .i64 y11] 26));go_wp2_with (at_mapUpdate;refine wpList_mapUpdate_own _ rfl _ _ _ 102 rfl 3 4 aTl Tryz.underlying102 (plainElem (H:=Unit) Tryz.prog 4) W.heap.size kk _ rfl (OM.out.alloc _) b_47 _ _ _ rfl rfl HKey.out _ [] (plainElem_bool Tryz.underlying4 _) ?_;intro w2 hown2 hgrow2)
    have OM2:=uZ hown2;have GW2:=uZ (show aA W w2 from Below.grown (GW.out.alloc _) hgrow2 (by have:=GW.out.size;simp;omega) (fun k hk=>by cases hk;exact Nat.le_refl _));clear hown2 hgrow2;go_roundg (l.length-(kk+1))
    case measure=>omega
    case rel=>exact⟨kk+1,by omega,by omega,by go_num,(show Aside _ from⟨_,OM2.out,by rw[HT.out];exact HU.out⟩),(show Aside _ from GW2.out)⟩
  case neg =>
   have hltz:=h_197;obtain rfl:kk=l.length:=by omega
   rw[List.take_length] at UM;have b2:=uQ GW.out HB.out.cell;have HB2:=uZ (show Boxed wr LB 22 _ from aD GW.out HB.out);have HJ0:=uZ (HJ.out _ _ _ H0.out GW.out);have HG2:=uZ (HG.out.trans GW.out);generalize W.heap.size=M at OM;clear GW;go_wp2_with fail;refine(wpIn_wide (n:=9)).1 ?_
   gi_loopg [29] l.length (fun gg s29 wx=>∃ kk:Nat,kk≤l.length∧l.length-kk≤gg∧s29=.int .i64 kk∧Aside (wx.ownsMap Tryz.prog 3 (plainElem Tryz.prog 4) M l.length D)∧Aside (Boxed wx LB 22 (.slice A l.length c))∧Aside (aA w0 wx)∧Aside (J (aIj l kk) wx))
   case atStart=>exact⟨0,by omega,by omega,rfl,OM.out,HB2.out,HG2.out,HJ0.out⟩
   case round =>
    clear b2;obtain⟨kk,hkk2,hgk2,rfl,OX,BX,GX,JX⟩:=hrel;by_cases hlt:kk<l.length
    case neg =>
     have hltz:=h_197;obtain rfl:kk=l.length:=by omega
     have hj:=JX.out;rw[HCA.out] at hj;have HJX:=uZ hj;clear hj
     gi_wp2
     go_end0
     exact⟨⟨_,rfl⟩,.inl HJX.out⟩
    case pos =>
     have hltz:=h_201;obtain⟨b,off,rfl,hbb,hcell⟩:=HR.out b_53;obtain⟨c0,c1,c2,c3,c4,c5,c6,c7,c8,c9,c10,c11⟩:=hcell wr GX.out kk hlt;have hw:=(HWF.out kk hlt).id;have HC:=uZ (HCS.out kk hlt);generalize l[kk]=y at hw c0 c1 c2 c3 c4 c5 c6 c7 c8 c9 c10 c11 HC;have HL:=uZ (fun(WX:World) (O:WX.ownsMap Tryz.prog 3 (plainElem Tryz.prog 4) M l.length D)=>yS UM.out O hw);have HP:=uZ (HCP.out (kk+1));clear hcell hw;unfold cE at HC;generalize eY l y.id=q at HL HC;obtain⟨y0,y1,y2,y3,y4,y5,y6,y7,y8,y9,y10,y11⟩:=y;dsimp only at HC HL c0 c1 c2 c3 c4 c5 c6 c7 c8 c9 c10 c11;have hlook:=HL.out _ (OX.out.alloc (.cells #[.int .i64 y0,.int .i64 y1,.int .i64 y2,.int .i64 y3,.int .i64 y4,.int .i64 y5,.int .i64 y6,.string y7,.string y8,.int .i64 y9,.int .i64 y10,.int .i64 y11] 26));have HJA:=uZ (HJ.out _ _ _ JX.out ((uX wr).alloc (.cells #[.int .i64 y0,.int .i64 y1,.int .i64 y2,.int .i64 y3,.int .i64 y4,.int .i64 y5,.int .i64 y6,.string y7,.string y8,.int .i64 y9,.int .i64 y10,.int .i64 y11] 26)));have HGA:=uZ (GX.out.alloc (.cells #[.int .i64 y0,.int .i64 y1,.int .i64 y2,.int .i64 y3,.int .i64 y4,.int .i64 y5,.int .i64 y6,.string y7,.string y8,.int .i64 y9,.int .i64 y10,.int .i64 y11] 26))
     have HSkip:(y2 != 6 && !q)=false→RowKit.Hid (J (aIj l (kk+1)) (wr.alloc (.cells #[.int .i64 y0,.int .i64 y1,.int .i64 y2,.int .i64 y3,.int .i64 y4,.int .i64 y5,.int .i64 y6,.string y7,.string y8,.int .i64 y9,.int .i64 y10,.int .i64 y11] 26))):=fun h=>by
      have hc:=HC.out;rw[h,if_neg b_52,List.append_nil] at hc;rw[hc];exact HJA.out
     cases hk:(y2 != 6)
     ·have HS:=HSkip (by rw[hk];rfl)
      clear HSkip HL hlook;exact c_53
     ·cases q
      ·have hc:=HC.out
       rw[hk,Bool.not_false,Bool.and_true,if_pos rfl] at hc;have HCC:=uZ hc;clear hc;obtain⟨fn,tmps,assign,body,hy,hR⟩:=HY.out 8 _ ((kk:Int),⟨y0,y1,y2,y3,y4,y5,y6,y7,y8,y9,y10,y11⟩) _ HJA.out (by rw[← HCC.out];exact HP.out);dsimp only [Opn.agg] at hy hR;clear HSkip HL
       gi_wp2_with fail
       refine hR.mono ?_;rintro e W2 (⟨rfl,hj2,hk2⟩|⟨rfl,hjx⟩)
       ·have OX2:=uZ (aZm (OX.out.alloc _) hk2)
        have BX2:=uZ (show Boxed W2 LB 22 _ from hk2.cells _ _ hLB HLX.out (BX.out.alloc _) rfl);have GX2:=uZ (show aA w0 W2 from Below.trans HGA.out hk2.below)
        have JX2:RowKit.Hid (J (aIj l (kk+1)) W2):=by
         show J (aIj l (kk+1)) W2;rw[HCC.out];exact hj2
        clear hk2 hj2 hy hR hlook;dsimp only
        gi_wp2
        gi_roundg (l.length-(kk+1))
        case measure=>omega
        case rel=>exact⟨kk+1,by omega,by omega,by go_num,OX2.out,BX2.out,GX2.out,JX2.out⟩
       ·have HJX2:RowKit.Hid (Jx (aIj l (kk+1)) W2):=by
         show Jx (aIj l (kk+1)) W2;rw[HCC.out];exact hjx
        clear hjx hy hR hlook;dsimp only
        gi_wp2
        refine bodyPost_ret (results_none rfl _ _ _) rfl ?_;exact⟨⟨_,rfl⟩,.inr ⟨_,HP.out,HJX2.out⟩⟩
      ·have HS:=HSkip (by rw[hk];rfl)
       clear HSkip HL;exact c_53
theorem qL (l:List Opn) (hwf:∀ i (h:i<l.length),WfO l[i]) (lv:Value) (w0:World) (hv:SlO w0 lv l) (hlen:l.length≤1000000) (X:Nat→Prop) (B LB n:Nat) (hLB:LB<B) (hLX:¬ X LB) (w:World) (hG:aA w0 w) (hb:Boxed w LB 22 lv) :
  SeqStopsS Fence.wide n Tryz.prog 69 #[.pointer (some ⟨LB,0,none⟩)] (fun x:Int × Opn=>#[Value.int .i64 x.1,x.2.agg]) w0.heap.size B X (fun xs=>xs=cN l) (fun pre=>pre <+: cN l) w :=
 fun lp J Jx W hW hJ _ hY h0=>by
  refine callsIn_wide.2 ?_;refine(aGq l hwf lv w0 hv hlen X B LB lp hLB hLX J Jx W (hG.trans hW) hJ (fun m pre x W1 hj hlt=>yO rfl m (hY pre x W1 hj hlt)) h0 (aD hW hb)).mono ?_;rintro e W' ⟨h,h2|⟨pre,h2,h3⟩⟩
  ·exact⟨h,.inl ⟨_,rfl,h2⟩⟩
  ·exact⟨h,.inr ⟨pre,h2,h3⟩⟩
end Go.Proofs.YtdochkemaiokfaaGreat
namespace Go.Proofs.YtdochkemaiokfaaGreat
open Go.RowKit
theorem h_41 {p:Prop} (h:p:=by
 exact(show ∀ j,j<6→w.cell? ⟨B,k*6+j,none⟩=cs[k].cells[j]? from fun j hj=>by
  rw[h.brs.cellAt (k*6+j) b_53,fD BrC.cells 6 (fun _=>rfl) cs k j hic hj])
):p:=h
structure yN (w0:World) (rv bv:Value) (cs:List BrC) (t:Tr) (k:Nat) (w:World):Prop where
 roots:pR w0.heap.size w rv t.roots
 brs:w.ownsRow w0.heap.size 66 6 bv t.brs.length (cs.flatMap BrC.cells)
 len:cs.length=t.brs.length
 each:∀ i (h:i<cs.length) (h':i<t.brs.length),cs[i]=t.brs[i].c cs[i].kv∧(k≤i→SlI w0 cs[i].kv t.brs[i].kids)∧(i<k→pR w0.heap.size w cs[i].kv t.brs[i].kids)
 apart:oP (rv::(cs.take k).map BrC.kv)
section
variable {w0 w w1:World} {rv bv v':Value} {cs:List BrC} {t:Tr} {k:Nat}
theorem yN.start (hr:pR w0.heap.size w rv t.roots) (hb:w.ownsRow w0.heap.size 66 6 bv t.brs.length (cs.flatMap BrC.cells)) (hl:cs.length=t.brs.length) (he:∀ i (h:i<cs.length) (h':i<t.brs.length),vW w0 cs[i] t.brs[i]):yN w0 rv bv cs t 0 w where
 roots:=hr
 brs:=hb
 len:=hl
 each:=fun i h h'=>⟨(he i h h').1,fun _=>(he i h h').2,fun h=>absurd h (Nat.not_lt_zero _)⟩
 apart:=by
  rw[List.take_zero];exact List.pairwise_singleton _ _
theorem yN.grew (h:yN w0 rv bv cs t k w) (hg:aA w w1):yN w0 rv bv cs t k w1 where
 roots:=aZ h.roots hg
 brs:=aZ h.brs hg
 len:=h.len
 each:=fun i hi hi'=>⟨(h.each i hi hi').1,(h.each i hi hi').2.1,fun hk=>aZ ((h.each i hi hi').2.2 hk) hg⟩
 apart:=h.apart
theorem yN.cells (h:yN w0 rv bv cs t k w) (hk:k<t.brs.length):∃ B cap kv,bv=.slice (some ⟨B,0,none⟩) t.brs.length cap∧w0.heap.size≤B∧B<w.heap.size∧SlI w0 kv t.brs[k].kids∧(∀ j,w.frozen? ⟨B,j,none⟩=false) ∧
  w.cell? ⟨B,k*6,none⟩=some (.int .i64 t.brs[k].id)∧w.cell? ⟨B,k*6+1,none⟩=some (.int .i64 t.brs[k].parent)∧w.cell? ⟨B,k*6+2,none⟩=some (.int .i64 t.brs[k].level)∧w.cell? ⟨B,k*6+3,none⟩=some (.string t.brs[k].title)∧w.cell? ⟨B,k*6+4,none⟩=some (.string t.brs[k].mark)∧w.cell? ⟨B,k*6+5,none⟩=some kv:=by
 have hic:k<cs.length:=by have:=h.len;omega
 obtain⟨e1,e2,-⟩:=h.each k hic hk;obtain⟨B,cap,hbv,hbb,-,-⟩:=fH h.brs b_53;subst hbv;have hlt:=h.brs.lt B rfl;have key:=h_41;rw[e1] at key;exact⟨B,cap,cs[k].kv,rfl,hlt.1,hlt.2,e2 (Nat.le_refl _),fun j=>h.brs.frozenAt _,key 0 b_53,key 1 b_53,key 2 b_53,key 3 b_53,key 4 b_53,key 5 b_53⟩
theorem yN.step (h:yN w0 rv bv cs t k w) (hk:k<t.brs.length) (hG:aA w0 w) (hg:aA w w1) (hv:pR w.heap.size w1 v' t.brs[k].kids) {B cap:Nat} (hbv:bv=.slice (some ⟨B,0,none⟩) t.brs.length cap) :
  yN w0 rv bv (cs.set k { cs[k]'(by have:=h.len;omega) with kv:=v' }) t (k+1) (w1.setCell ⟨B,k*6+5,none⟩ v'):=by
 have hic:k<cs.length:=by have:=h.len;omega
 have h1:=h.grew hg;subst hbv;obtain⟨curB,hB⟩:=uT h1.brs (g:=B) rfl;have hvb:=World.ownsRow.mono hv hG.size;have hset:∀ {v:Value} {l:List Int} {b:Nat},pR b w1 v l→pR b (w1.setCell ⟨B,k*6+5,none⟩ v') v l:=fun hx=>ownsRow_setCell_other hx (cR hx hB rI) _
 refine⟨hset h1.roots,?_,by simp[h.len],fun i hi hi'=>?_,?_⟩
 ·have h2:=(h1.brs.stored (k*6+5) v').1
  rw[rV (c':={ cs[k] with kv:=v' }) b_53 rfl cs k hic rfl] at h2;simpa using h2
 ·have hi2:i<cs.length:=by simpa using hi
  by_cases e:i=k
  ·subst e
   rw[List.getElem_set_self];refine⟨?_,fun hx=>absurd hx b_53,fun _=>hset hvb⟩;rw[(h.each i hi2 hi').1];rfl
  ·rw[List.getElem_set_ne b_53]
   obtain⟨a1,a2,a3⟩:=h1.each i hi2 hi';exact⟨a1,fun hx=>a2 b_53,fun hx=>hset (a3 b_53)⟩
 ·have hic2:k<(cs.set k { cs[k] with kv:=v' }).length:=by simpa using hic
  rw[List.take_succ_eq_append_getElem hic2,List.getElem_set_self,List.take_set_of_le (Nat.le_refl k),List.map_append];show oP ((rv::(cs.take k).map BrC.kv)++[v']);refine List.pairwise_append.2 ⟨h.apart,List.pairwise_singleton _ _,fun a ha b hb g hga hgb=>?_⟩;rw[List.mem_singleton] at hb;subst hb;have hlo:=(hv.lt g hgb).1
  have hold:g<w.heap.size:=by
   rcases List.mem_cons.1 ha with e|ha
   ·subst e
    exact(h.roots.lt g hga).2
   ·obtain⟨c,hc,rfl⟩:=List.mem_map.1 ha
    obtain⟨i,hi,rfl⟩:=List.mem_iff_getElem.1 hc;rw[List.length_take] at hi;rw[List.getElem_take] at hga;exact((((h.each i b_53 (by have:=h.len;omega)).2.2 b_53)).lt g hga).2
  omega
theorem yN.done (h:yN w0 rv bv cs t t.brs.length w) (hG:aA w0 w):EdB w0.heap.size w.heap.size bv t (w.alloc (.cells #[rv,bv] 128)):=by
 have h1:=h.grew ((uX w).alloc (.cells #[rv,bv] 128));refine⟨rv,cs,hG.size,(MapKept.heap_alloc w _).1,h1.roots,h1.brs,h.len,fun i hi hi'=>⟨(h1.each i hi hi').1,(h1.each i hi hi').2.2 hi'⟩,?_⟩;have:=h.apart;rw[List.take_of_length_le (by have:=h.len;omega)] at this;exact this
end
theorem bAp (l:List BrC) (v:Value) (w:World) (hv:SlB w v l) (h1c:∀ c∈l,c.kv.oneCell'=true) (hb:l.length*80≤140737488355328) :
  Calls Tryz.prog 145 #[v] w fun e w'=>∃ v',e=.returned v'∧w'.ownsRow w.heap.size 66 6 v' l.length (l.flatMap BrC.cells)∧aA w w':=by
 obtain⟨A,n,c,rfl,hl,hn,hc,hr⟩:=hv;have hfl:=aL BrC.cells 6 (fun _=>rfl) l;obtain rfl:n=l.length:=by omega
 unfold maxLen at hc;have q22:∀(w:World) (a:Option Addr) (n c:Nat),(binOp .eql 41 (.slice a n c) (.slice none 0 0)).run Tryz.prog w=.ok (.bool a.isNone) w:=fun w a n c=>Lib.run_eql_slice_nil w _ _ a n c 0 0 Tryz.underlying41
 cases A with
 | none =>
  have h0:l.length=0:=by
   exact c_107
  obtain rfl:l=[]:=List.eq_nil_of_length_eq_zero h0;clear hr hl hn hfl h0 hb;go_enter Tryz.func145,Tryz.ntmps145;exact c_122
 | some ad =>
  have hcells:∀ j u,(l.flatMap BrC.cells)[j]? = some u→w.cell? (ad.add j)=some u:=by
   exact c_57
  have HC:=uZ hcells;have H1:=uZ (cY l h1c);have HL:=uZ hl;generalize l.flatMap BrC.cells=cs at HC H1 HL ⊢;clear hcells hr hl hfl;obtain⟨i0,hi,hz0,hz1,hz2⟩:=info_parts rD;go_enter Tryz.func145,Tryz.ntmps145;go_wp2_with (at_builtin;refine wpList_append_own _ rfl _ _ 41 rfl w.heap.size 66 i0 (.agg #[.int .i64 0,.int .i64 0,.int .i64 0,.string ⟨#[]⟩,.string ⟨#[]⟩,.slice none 0 0]) 6 80 Tryz.underlying41 hi hz0 hz1 hz2 rfl b_53 _ _ _ rfl (World.ownsRow_made w #[] 0 (Nat.le_refl _) (Nat.zero_le _) b_54) ad l.length c cs rfl ?qc1 ?qc2 ?qc3 ?qc4 ?qc5 ?qc6 ?_)
  case qc1=>exact HL.out
  case qc2=>exact fun j u hu=>(aA.cell ((uX w).alloc _) (by
   have:=block_lt_of_cell (HC.out j u hu)
   exact this)).trans (HC.out j u hu)
  case qc3=>exact H1.out
  case qc4=>unfold maxLen;omega
  case qc5=>omega
  case qc6=>simp
  exact c_64
theorem aJv {w:World} {v:Value} {l:List Int} (h:SlI w v l):v.oneCell'=true:=by
 obtain⟨A,c,rfl,-⟩:=SlI.open_ h;rfl
theorem uK {a b:World} (g:aA a b) {X:Nat} {o:Obj} (h:a.heap[X]? = some o):b.heap[X]? = some o:=by
 rw[g.block X (Array.getElem?_eq_some_iff.1 h).1];exact h
theorem aF {a:World} {X:Nat} {p:Obj} (h:X=a.heap.size):(a.alloc p).heap[X]? = some p:=by
 subst h;exact(MapKept.heap_alloc a p).1
theorem bCu (w1 W:World) {p q:Addr} {x y:Value} (h:w1.cell? p=some x) (h2:w1.cell? q=some y) (g:aA w1 W):W.cell? p=some x∧W.cell? q=some y∧aA w1 W:=⟨uQ g h,uQ g h2,g⟩
theorem bAa (w1 W:World) {p q:Addr} {x y:Value} (h:w1.cell? p=some x) (h2:w1.cell? q=some y) (g:aA w1 W):W.cell? p=some x∧W.cell? q=some y:=⟨uQ g h,uQ g h2⟩
theorem aZz (W:World) (a:Addr) (u:Value) {p q:Addr} {x y:Value} (hp:p.block≠a.block) (hq:q.block≠a.block) (h:W.cell? p=some x) (h2:W.cell? q=some y):(W.setCell a u).cell? p=some x∧(W.setCell a u).cell? q=some y:=⟨by
 rw[uV _ _ _ _ (fun e=>hp (by rw[e]))]
 exact h,by
 rw[uV _ _ _ _ (fun e=>hq (by rw[e]))]
 exact h2⟩
theorem cI {w W:World} {cs:List Value} {t:TypeId} (h:aA (w.alloc (.cells cs.toArray t)) W) (j:Nat):W.frozen? ⟨w.heap.size,j,none⟩=false:=(h.frozen (p:=⟨w.heap.size,j,none⟩) b_54).trans b_54
def aEg (w:World) (t:Tr) (cs:List BrC) (s:Value) (W:World):Prop:=∃ X rv bv,s=.pointer (some ⟨X,0,none⟩)∧W.heap[X]? = some (.cells #[rv,bv] 43 (0,0))∧pR w.heap.size W rv t.roots∧W.ownsRow w.heap.size 66 6 bv cs.length (cs.flatMap BrC.cells)∧aA w W∧w.heap.size≤X
theorem xA:(3:Nat)≠43:=by decide
theorem oH:(66:Nat)≠43:=by decide
theorem aNd {w W W1 W2:World} {t:Tr} {cs:List BrC} {X:Nat} {a b v1 v2:Value} (hX:W.heap[X]? = some (.cells #[a,b] 43 (0,0))) (hlo:w.heap.size≤X) (hG:aA w W) (h1:pR w.heap.size W1 v1 t.roots) (g1:aA W1 W)
  (h2:W2.ownsRow w.heap.size 66 6 v2 cs.length (cs.flatMap BrC.cells)) (g2:aA W2 W):aEg w t cs (.pointer (some ⟨X,0,none⟩)) ((W.setCell ⟨X,0,none⟩ v1).setCell ⟨X,1,none⟩ v2):=by
 have hX1:(W.setCell ⟨X,0,none⟩ v1).heap[X]? = some (.cells #[v1,b] 43 (0,0)):=by
  have:=heap_setCell_same W X 0 #[a,b] 43 v1 hX;simpa using this
 have hX2:((W.setCell ⟨X,0,none⟩ v1).setCell ⟨X,1,none⟩ v2).heap[X]? = some (.cells #[v1,v2] 43 (0,0)):=by
  have:=heap_setCell_same (W.setCell ⟨X,0,none⟩ v1) X 1 #[v1,b] 43 v2 hX1;simpa using this
 have h1W:=aZ h1 g1;have h2W:=aZ h2 g2;have h1a:=ownsRow_setCell_other (a:=⟨X,0,none⟩) h1W (cR (g:=X) h1W hX xA) v1;have h2a:=ownsRow_setCell_other (a:=⟨X,0,none⟩) h2W (cR (g:=X) h2W hX oH) v1;exact⟨X,v1,v2,rfl,hX2,ownsRow_setCell_other (a:=⟨X,1,none⟩) h1a (cR (g:=X) h1a hX1 xA) _,ownsRow_setCell_other (a:=⟨X,1,none⟩) h2a (cR (g:=X) h2a hX1 oH) _,(hG.setCell hlo _).setCell hlo _,hlo⟩
theorem aIb {w W W1 W2:World} {t:Tr} {cs:List BrC} {v1 v2:Value} (hG:aA w W) (h1:pR w.heap.size W1 v1 t.roots) (g1:aA W1 W)
  (h2:W2.ownsRow w.heap.size 66 6 v2 cs.length (cs.flatMap BrC.cells)) (g2:aA W2 W):aEg w t cs (.pointer (some ⟨W.heap.size,0,none⟩)) (W.alloc (.cells #[v1,v2] 43)) :=
 ⟨_,v1,v2,rfl,aF rfl,aZ h1 (g1.alloc _),aZ h2 (g2.alloc _),hG.alloc _,hG.size⟩
def aSi (w:World) (rv bv:Value) (cs:List BrC) (t:Tr) (k X:Nat) (W:World):Prop:=∃ cs',yN w rv bv cs' t (k+1) W∧cs'.length=cs.length∧W.heap[X]? = some (.cells #[rv,bv] 43 (0,0))∧aA w W
theorem aGt {w w1 W:World} {rv v':Value} {cs:List BrC} {t:Tr} {k X B cap:Nat} (h:yN w rv (.slice (some ⟨B,0,none⟩) t.brs.length cap) cs t k w1) (hk:k<t.brs.length) (hG:aA w w1) (hg:aA w1 W) (hv:pR w1.heap.size W v' t.brs[k].kids)
  (hX:w1.heap[X]? = some (.cells #[rv,.slice (some ⟨B,0,none⟩) t.brs.length cap] 43 (0,0))):aSi w rv (.slice (some ⟨B,0,none⟩) t.brs.length cap) cs t k X (W.setCell ⟨B,k*6+5,none⟩ v'):=by
 have hne:X≠B:=by
  intro e;subst e;obtain⟨c,hc⟩:=uT h.brs (g:=X) rfl;rw[hX] at hc;injection hc with hc;injection hc with _ hc _;exact oH hc.symm
 refine⟨_,h.step hk hG hg hv rfl,by simp,cG _ _ (uK hg hX) hne,?_⟩;exact(hG.trans hg).setCell (h.brs.lt B rfl).1 _
theorem bCk (t:Tr) (rv bv:Value) (w:World) (hr:SlI w rv t.roots) (hv:bQ w bv t.brs) (hf:cF t.brs) (hrl:t.roots.length≤1000000) :
  Calls Tryz.prog 99 #[.agg #[rv,bv]] w fun e w'=>∃ E bv',e=.returned (.pointer (some ⟨E,0,none⟩))∧EdB w.heap.size E bv' t w'∧aA w w':=by
 obtain⟨cs,hB,hcl,hok⟩:=hv
 have h1c:∀ c∈cs,c.kv.oneCell'=true:=by
  intro c hc;obtain⟨i,hi,rfl⟩:=List.mem_iff_getElem.1 hc;exact aJv (hok i hi b_53).2
 have hfl:=hf.1;have KR:=uZ (fun W (hW:aA w W)=>aTr t.roots rv W (hr.mono hW) b_53);have KB:=uZ (fun W (hW:aA w W)=>bAp cs bv W (hB.mono hW) h1c b_53);have HOK:=uZ hok;have HFK:=uZ (fun k (hk:k<t.brs.length)=>hf.2 k hk);obtain⟨Ar,cr,rfl,-⟩:=SlI.open_ hr;obtain⟨Ab,cb,hbv,-⟩:=SlB.open_ hB;rw[hcl] at hbv;subst hbv;have HCL:=uZ hcl;clear hr hB h1c hok hf hrl hcl;have b0:=yQ (uX (w.alloc (.cells #[.slice Ar t.roots.length cr,.slice Ab t.brs.length cb] 43))) 0 _ rfl;have b1:=yQ (uX (w.alloc (.cells #[.slice Ar t.roots.length cr,.slice Ab t.brs.length cb] 43))) 1 _ rfl;have GA:=uZ ((uX w).alloc (.cells #[.slice Ar t.roots.length cr,.slice Ab t.brs.length cb] 43));go_enter Tryz.func99,Tryz.ntmps99;go_wp2_with fail;generalize w.alloc (.cells #[.slice Ar t.roots.length cr,.slice Ab t.brs.length cb] 43)=WA at b0 b1 GA ⊢;go_cut [3] from 6 to 12 (fun s3 wx=>aEg w t cs s3 wx)
 case first =>
  as_aux_lemma =>
  go_region_held3 (fun W=>W.cell? ⟨w.heap.size,0,none⟩=some (.slice Ar t.roots.length cr)∧W.cell? ⟨w.heap.size,1,none⟩=some (.slice Ab t.brs.length cb)∧aA WA W) (refine bCu WA _ b0 b1 (by repeat (first|exact uX WA|exact GB1.out|exact GB2.out|refine uJ ?_|refine uU ?_ _|refine yZ ?_ (by first|exact Nat.le_refl _|exact GB1.out.size|exact GB2.out.size|simp) _))) (first|(go_at_call 144;refine(KR.out _ (by repeat (first|exact GW2.out|exact GA.out|refine uJ ?_|refine uU ?_ _))).mono ?_;rintro e w1 ⟨v1,rfl,ho1,g1⟩;have HO1:=uZ (World.ownsRow.mono (base':=w.heap.size) ho1 (aA.size (by repeat (first|exact GW2.out|exact GA.out|refine uJ ?_|refine uU ?_ _))));have GB1:=uZ (show aA WA w1 from uY (by repeat (first|exact uX WA|exact GB2.out|refine uJ ?_|refine uU ?_ _)) g1);have GW1:=uZ (GA.out.trans GB1.out);(try have GX1:=uZ (show aA w2 w1 from uY (by repeat (first|exact uX w2|refine uJ ?_|refine uU ?_ _)) g1));have x10:=uQ GB1.out b0;have x11:=uQ GB1.out b1;have HG1:=uZ g1;obtain⟨A1,c1,rfl⟩:=aJ ho1;(try have Na1:=uZ (show aA (WA.alloc (.cells [.slice none 0 0,.slice none 0 0].toArray 43)) w1 from uY (show aA (WA.alloc (.cells [.slice none 0 0,.slice none 0 0].toArray 43)) ((WA.alloc (.cells [.slice none 0 0,.slice none 0 0].toArray 43)).drew) from(uX _).drew) g1));(try have Nb1:=uZ (show aA (WA.alloc (.cells [.slice none 0 0,.slice none 0 0].toArray 43)) w1 from uY (show aA (WA.alloc (.cells [.slice none 0 0,.slice none 0 0].toArray 43)) (WA.alloc (.cells [.slice none 0 0,.slice none 0 0].toArray 43)) from uX _) g1));(try have Nc1:=uZ (show aA (w2.alloc (.cells [.slice none 0 0,.slice none 0 0].toArray 43)) w1 from uY (show aA (w2.alloc (.cells [.slice none 0 0,.slice none 0 0].toArray 43)) ((w2.alloc (.cells [.slice none 0 0,.slice none 0 0].toArray 43)).drew) from(uX _).drew) g1));(try have Nd1:=uZ (show aA (w2.alloc (.cells [.slice none 0 0,.slice none 0 0].toArray 43)) w1 from uY (show aA (w2.alloc (.cells [.slice none 0 0,.slice none 0 0].toArray 43)) (w2.alloc (.cells [.slice none 0 0,.slice none 0 0].toArray 43)) from uX _) g1));(try have Nea1:=uZ (show aA (WA.alloc (.cells [.slice none 0 0,.slice none 0 0].toArray 43)) w1 from uY Na2.out.drew g1));(try have Nfa1:=uZ (show aA (WA.alloc (.cells [.slice none 0 0,.slice none 0 0].toArray 43)) w1 from uY Na2.out g1));(try have Neb1:=uZ (show aA (WA.alloc (.cells [.slice none 0 0,.slice none 0 0].toArray 43)) w1 from uY Nb2.out.drew g1));(try have Nfb1:=uZ (show aA (WA.alloc (.cells [.slice none 0 0,.slice none 0 0].toArray 43)) w1 from uY Nb2.out g1));(try have cNa01:=yQ Na1.out 0 _ rfl);(try have fNa01:=cI Na1.out 0);(try have cNa11:=yQ Na1.out 1 _ rfl);(try have fNa11:=cI Na1.out 1);(try have cNb01:=yQ Nb1.out 0 _ rfl);(try have fNb01:=cI Nb1.out 0);(try have cNb11:=yQ Nb1.out 1 _ rfl);(try have fNb11:=cI Nb1.out 1);(try have cNc01:=yQ Nc1.out 0 _ rfl);(try have fNc01:=cI Nc1.out 0);(try have cNc11:=yQ Nc1.out 1 _ rfl);(try have fNc11:=cI Nc1.out 1);(try have cNd01:=yQ Nd1.out 0 _ rfl);(try have fNd01:=cI Nd1.out 0);(try have cNd11:=yQ Nd1.out 1 _ rfl);(try have fNd11:=cI Nd1.out 1);(try have cNea01:=yQ Nea1.out 0 _ rfl);(try have fNea01:=cI Nea1.out 0);(try have cNea11:=yQ Nea1.out 1 _ rfl);(try have fNea11:=cI Nea1.out 1);(try have cNeb01:=yQ Neb1.out 0 _ rfl);(try have fNeb01:=cI Neb1.out 0);(try have cNeb11:=yQ Neb1.out 1 _ rfl);(try have fNeb11:=cI Neb1.out 1);(try have cNfa01:=yQ Nfa1.out 0 _ rfl);(try have fNfa01:=cI Nfa1.out 0);(try have cNfa11:=yQ Nfa1.out 1 _ rfl);(try have fNfa11:=cI Nfa1.out 1);(try have cNfb01:=yQ Nfb1.out 0 _ rfl);(try have fNfb01:=cI Nfb1.out 0);(try have cNfb11:=yQ Nfb1.out 1 _ rfl);(try have fNfb11:=cI Nfb1.out 1);clear ho1 g1)|(go_at_call 145;refine(KB.out _ (by repeat (first|exact GW1.out|exact GA.out|refine uJ ?_|refine uU ?_ _))).mono ?_;rintro e w2 ⟨v2,rfl,ho2,g2⟩;have HO2:=uZ (World.ownsRow.mono (base':=w.heap.size) ho2 (aA.size (by repeat (first|exact GW1.out|exact GA.out|refine uJ ?_|refine uU ?_ _))));have GB2:=uZ (show aA WA w2 from uY (by repeat (first|exact uX WA|exact GB1.out|refine uJ ?_|refine uU ?_ _)) g2);have GW2:=uZ (GA.out.trans GB2.out);(try have GX2:=uZ (show aA w1 w2 from uY (by repeat (first|exact uX w1|refine uJ ?_|refine uU ?_ _)) g2));have x20:=uQ GB2.out b0;have x21:=uQ GB2.out b1;have HG2:=uZ g2;obtain⟨A2,c2,rfl⟩:=aJ ho2;(try have Na2:=uZ (show aA (WA.alloc (.cells [.slice none 0 0,.slice none 0 0].toArray 43)) w2 from uY (show aA (WA.alloc (.cells [.slice none 0 0,.slice none 0 0].toArray 43)) ((WA.alloc (.cells [.slice none 0 0,.slice none 0 0].toArray 43)).drew) from(uX _).drew) g2));(try have Nb2:=uZ (show aA (WA.alloc (.cells [.slice none 0 0,.slice none 0 0].toArray 43)) w2 from uY (show aA (WA.alloc (.cells [.slice none 0 0,.slice none 0 0].toArray 43)) (WA.alloc (.cells [.slice none 0 0,.slice none 0 0].toArray 43)) from uX _) g2));(try have Nc2:=uZ (show aA (w1.alloc (.cells [.slice none 0 0,.slice none 0 0].toArray 43)) w2 from uY (show aA (w1.alloc (.cells [.slice none 0 0,.slice none 0 0].toArray 43)) ((w1.alloc (.cells [.slice none 0 0,.slice none 0 0].toArray 43)).drew) from(uX _).drew) g2));(try have Nd2:=uZ (show aA (w1.alloc (.cells [.slice none 0 0,.slice none 0 0].toArray 43)) w2 from uY (show aA (w1.alloc (.cells [.slice none 0 0,.slice none 0 0].toArray 43)) (w1.alloc (.cells [.slice none 0 0,.slice none 0 0].toArray 43)) from uX _) g2));(try have Nea2:=uZ (show aA (WA.alloc (.cells [.slice none 0 0,.slice none 0 0].toArray 43)) w2 from uY Na1.out.drew g2));(try have Nfa2:=uZ (show aA (WA.alloc (.cells [.slice none 0 0,.slice none 0 0].toArray 43)) w2 from uY Na1.out g2));(try have Neb2:=uZ (show aA (WA.alloc (.cells [.slice none 0 0,.slice none 0 0].toArray 43)) w2 from uY Nb1.out.drew g2));(try have Nfb2:=uZ (show aA (WA.alloc (.cells [.slice none 0 0,.slice none 0 0].toArray 43)) w2 from uY Nb1.out g2));(try have cNa02:=yQ Na2.out 0 _ rfl);(try have fNa02:=cI Na2.out 0);(try have cNa12:=yQ Na2.out 1 _ rfl);(try have fNa12:=cI Na2.out 1);(try have cNb02:=yQ Nb2.out 0 _ rfl);(try have fNb02:=cI Nb2.out 0);(try have cNb12:=yQ Nb2.out 1 _ rfl);(try have fNb12:=cI Nb2.out 1);(try have cNc02:=yQ Nc2.out 0 _ rfl);(try have fNc02:=cI Nc2.out 0);(try have cNc12:=yQ Nc2.out 1 _ rfl);(try have fNc12:=cI Nc2.out 1);(try have cNd02:=yQ Nd2.out 0 _ rfl);(try have fNd02:=cI Nd2.out 0);(try have cNd12:=yQ Nd2.out 1 _ rfl);(try have fNd12:=cI Nd2.out 1);(try have cNea02:=yQ Nea2.out 0 _ rfl);(try have fNea02:=cI Nea2.out 0);(try have cNea12:=yQ Nea2.out 1 _ rfl);(try have fNea12:=cI Nea2.out 1);(try have cNeb02:=yQ Neb2.out 0 _ rfl);(try have fNeb02:=cI Neb2.out 0);(try have cNeb12:=yQ Neb2.out 1 _ rfl);(try have fNeb12:=cI Neb2.out 1);(try have cNfa02:=yQ Nfa2.out 0 _ rfl);(try have fNfa02:=cI Nfa2.out 0);(try have cNfa12:=yQ Nfa2.out 1 _ rfl);(try have fNfa12:=cI Nfa2.out 1);(try have cNfb02:=yQ Nfb2.out 0 _ rfl);(try have fNfb02:=cI Nfb2.out 0);(try have cNfb12:=yQ Nfb2.out 1 _ rfl);(try have fNfb12:=cI Nfb2.out 1);clear ho2 g2))
  all_goals go_wp2_with fail
  all_goals go_meet
  all_goals first|refine aIb ?_ HO1.out ?_ HO2.out ?_|refine aNd (a:=.slice none 0 0) (b:=.slice none 0 0) ?_ ?_ ?_ HO1.out ?_ HO2.out ?_
  all_goals first|exact GA.out.size|exact GW1.out.size|exact GW2.out.size|exact aF rfl|exact uK Na1.out (aF rfl)|exact uK Na2.out (aF rfl)|exact uK Nb1.out (aF rfl)|exact uK Nb2.out (aF rfl)|exact uK Nc1.out (aF rfl)|exact uK Nc2.out (aF rfl)|exact uK Nd1.out (aF rfl)|exact uK Nd2.out (aF rfl)|exact uK Nea1.out (aF rfl)|exact uK Nea2.out (aF rfl)|exact uK Neb1.out (aF rfl)|exact uK Neb2.out (aF rfl)|exact uK Nfa1.out (aF rfl)|exact uK Nfa2.out (aF rfl)|exact uK Nfb1.out (aF rfl)|exact uK Nfb2.out (aF rfl)|((repeat (first|exact GW1.out|exact GW2.out|refine uJ ?_|refine uU ?_ _));done)|((repeat (first|exact uX w1|exact GX2.out|refine uJ ?_|refine uU ?_ _));done)|((repeat (first|exact uX w2|exact GX1.out|refine uJ ?_|refine uU ?_ _));done)
 case rest =>
  as_aux_lemma =>
  obtain⟨X,rv,bv,rfl,hX,ho,hb,hG,hXlo⟩:=hcut;rw[HCL.out] at hb;have HS:=uZ (yN.start ho hb HCL.out HOK.out);obtain⟨A1,c1,rfl⟩:=aJ ho;obtain⟨A2,c2,rfl⟩:=aJ hb;have x0:wc.cell? ⟨X,0,none⟩=some (.slice A1 t.roots.length c1):=by simp[World.cell?,hX]
  have x1:wc.cell? ⟨X,1,none⟩=some (.slice A2 t.brs.length c2):=by simp[World.cell?,hX]
  have HX:=uZ hX;have HGC:=uZ hG;clear ho hb hX hG b0 b1 GA HOK KR KB;go_wp2;clear x0 x1;go_loopg [16] t.brs.length (fun gg s16 wr=>∃(k:Nat) (ds:List BrC),k≤t.brs.length∧t.brs.length-k≤gg∧s16=.int .i64 k∧Aside (yN w (.slice A1 t.roots.length c1) (.slice A2 t.brs.length c2) ds t k wr)∧Aside (wr.heap[X]? = some (.cells #[.slice A1 t.roots.length c1,.slice A2 t.brs.length c2] 43 (0,0)))∧Aside (aA w wr))
  case atStart=>exact⟨0,cs,by omega,by omega,rfl,(show Aside _ from HS.out),(show Aside _ from HX.out),(show Aside _ from HGC.out)⟩
  case round =>
   clear HS HX HGC hXlo;obtain⟨k,ds,hkl,hgk,rfl,HH,HX,GW⟩:=hrel;have x0:wr.cell? ⟨X,0,none⟩=some (.slice A1 t.roots.length c1):=by have:=HX.out;simp[World.cell?,this]
   have x1:wr.cell? ⟨X,1,none⟩=some (.slice A2 t.brs.length c2):=by have:=HX.out;simp[World.cell?,this]
   by_cases hlt:k<t.brs.length
   ·have hltz:(k:Int)<(t.brs.length:Int):=by omega
    have h0z:=h_216;obtain⟨B,cap,kv,e,hlo,hBs,hkv,hfz,c0,c1',c2',c3,c4,c5⟩:=HH.out.cells hlt;injection e with e1 _ e2;subst e1 e2;have hlk:=HFK.out k hlt;have KK:=uZ (fun W (hW:aA w W)=>aTr t.brs[k].kids kv W (hkv.mono hW) b_53);obtain⟨Ak,ck,rfl,-⟩:=SlI.open_ hkv;have HY:=uZ (fun W v' (hg:aA wr W) (hv:pR wr.heap.size W v' t.brs[k].kids)=>aGt HH.out hlt GW.out hg hv HX.out);have hz5:=hfz (k*6+5)
    have hXB:X≠B:=by
     intro e;subst e;obtain⟨c,hc⟩:=uT HH.out.brs (g:=X) rfl;rw[HX.out] at hc;injection hc with hc;injection hc with _ hc _;exact oH hc.symm
    have hRB:wr.heap.size≠B:=by omega
    clear hkv hlk hfz;generalize t.brs[k]=y at c0 c1' c2' c3 c4 c5 KK HY;obtain⟨yi,yp,yl,yt,ym,yk⟩:=y;dsimp only at c0 c1' c2' c3 c4 c5 KK HY;go_wp2_with fail;have d5:=yQ (uX (wr.alloc (.cells #[.int .i64 yi,.int .i64 yp,.int .i64 yl,.string yt,.string ym,.slice Ak yk.length ck] 66))) 5 _ rfl;have GB:=uZ ((uX wr).alloc (.cells #[.int .i64 yi,.int .i64 yp,.int .i64 yl,.string yt,.string ym,.slice Ak yk.length ck] 66));have f5:=(GB.out.frozen (p:=⟨B,k*6+5,none⟩) hBs).trans hz5;have y1:=uQ GB.out x1;have y5:=uQ GB.out c5;have hBs2:B<(wr.alloc (.cells #[.int .i64 yi,.int .i64 yp,.int .i64 yl,.string yt,.string ym,.slice Ak yk.length ck] 66)).heap.size:=Nat.lt_of_lt_of_le hBs GB.out.size;clear x0 x1 c0 c1' c2' c3 c4 c5 hz5;generalize wr.alloc (.cells #[.int .i64 yi,.int .i64 yp,.int .i64 yl,.string yt,.string ym,.slice Ak yk.length ck] 66)=WB at d5 GB f5 y1 y5 hBs2 ⊢
    go_region_held3 (fun W=>W.cell? ⟨X,1,none⟩=some (.slice (some ⟨B,0,none⟩) t.brs.length c2)∧W.cell? ⟨wr.heap.size,5,none⟩=some (.slice Ak yk.length ck)) (first|(refine bAa WB _ y1 d5 ?_;(repeat (first|exact uX WB|exact GB1.out|refine uJ ?_));done)|exact aZz w1 ⟨B,k*6+5,none⟩ _ hXB hRB z1 zd) ((go_at_call 144;refine(KK.out _ (GW.out.trans (by repeat (first|exact GB.out|refine uJ ?_)))).mono ?_;rintro e w1 ⟨v1,rfl,ho1,g1⟩;have GB1:=uZ (show aA WB w1 from uY (by repeat (first|exact uX WB|refine uJ ?_)) g1);have HO1:=uZ (World.ownsRow.mono (base':=wr.heap.size) ho1 (aA.size (by repeat (first|exact GB.out|refine uJ ?_))));obtain⟨A3,c3,rfl⟩:=aJ ho1;have z1:=uQ GB1.out y1;have z5:=uQ GB1.out y5;have zd:=uQ GB1.out d5;have g5:=(GB1.out.frozen (p:=⟨B,k*6+5,none⟩) hBs2).trans f5;clear ho1 g1))
    go_wp2;go_roundg (t.brs.length-(k+1))
    case measure=>omega
    case rel =>
     obtain⟨ds2,hH2,-,hX2,hG2⟩:=HY.out _ _ (GB.out.trans GB1.out) HO1.out;exact⟨k+1,ds2,by omega,by omega,by go_num,(show Aside _ from hH2),(show Aside _ from hX2),(show Aside _ from hG2)⟩
   ·have hltz:¬ (k:Int)<(t.brs.length:Int):=by omega
    obtain rfl:k=t.brs.length:=by omega
    go_wp2;go_ret;exact⟨_,rfl,⟨_,HH.out.done GW.out⟩,GW.out.alloc _⟩
theorem e_20 {p:Prop} (h:p:=by
 dsimp only;go_wp2;go_ret;exact⟨rfl,HG.out.trans (((uX w).alloc _).trans g1),fun h=>by cases h⟩
):p:=h
theorem c_77 {p:Prop} (h:p:=by
 go_wp2_with fail;refine(KB.out _ ((uX w).alloc _)).mono ?_;rintro e w1 ⟨rfl,g1⟩;exact e_20
):p:=h
theorem h_164 {p:Prop} (h:p:=by
 exact fun W (hW:aA (w.alloc (.cells o.cells.toArray 26)) W)=>jL o hW
):p:=h
theorem h_175 {p:Prop} (h:p:=by
 exact uZ (fun W (hW:aA w W)=>nE (h.grew hW) hT.asc hT.len hb)
):p:=h
theorem jL {w W:World} {t:TypeId} (o:Opn) (h:aA (w.alloc (.cells o.cells.toArray t)) W) :
  W.cell? ⟨w.heap.size,3,none⟩=some (.int .i64 o.unit)∧W.cell? ⟨w.heap.size,4,none⟩=some (.int .i64 o.parent)∧W.cell? ⟨w.heap.size,5,none⟩=some (.int .i64 o.before)∧W.cell? ⟨w.heap.size,6,none⟩=some (.int .i64 o.level)∧W.cell? ⟨w.heap.size,7,none⟩=some (.string o.title)∧W.cell? ⟨w.heap.size,8,none⟩=some (.string o.mark) :=
 ⟨yQ h 3 _ rfl,yQ h 4 _ rfl,yQ h 5 _ rfl,yQ h 6 _ rfl,yQ h 7 _ rfl,yQ h 8 _ rfl⟩
section
variable {w0:World} {E:Nat} {bv:Value} {t:Tr} {w:World}
theorem aAi {w1:World} {i j:Nat} {B cap:Nat} (h:EdB w0.heap.size E bv t w1) (hG:aA w0 w1) (hT:TOk t) (hi:i<t.brs.length) (hj:j<5) (hbv:bv=.slice (some ⟨B,0,none⟩) t.brs.length cap) (f:Br→Br) (u:Value) (hf:∀ kv,((f t.brs[i]).c kv).cells=(t.brs[i].c kv).cells.set j u) (hk:(f t.brs[i]).kids=t.brs[i].kids) {n:Int} (hn:t.brs[i].id=n) :
  aBo w0 E (jX t n f) 0 (.returned (.int .i64 0)) (w1.setCell ⟨B,i*6+j,none⟩ u)∧w1.frozen? ⟨B,i*6+j,none⟩=false∧∃ v,w1.cell? ⟨B,i*6+j,none⟩=some v:=by
 obtain⟨rv,cs,hE⟩:=h;obtain⟨c0,c1,c2,c3,c4,-,hz,hlo,hlt⟩:=hE.at_ hi hbv;subst hn;refine⟨⟨rfl,hG.setCell (p:=⟨B,i*6+j,none⟩) hlo u,fun _=>⟨bv,hE.field hT.asc hi hj hbv f u hf hk⟩⟩,hz _,?_⟩;have:j=0∨j=1∨j=2∨j=3∨j=4:=by omega
 rcases this with rfl|rfl|rfl|rfl|rfl
 ·exact⟨_,c0⟩
 ·exact⟨_,c1⟩
 ·exact⟨_,c2⟩
 ·exact⟨_,c3⟩
 ·exact⟨_,c4⟩
theorem aRs (h:EdB w0.heap.size E bv t w) (hG:aA w0 w) (hT:TOk t) (o:Opn) :
  Calls Tryz.prog 94 #[.pointer (some ⟨E,0,none⟩),o.agg] w (aBo w0 E (jX t o.unit fun b=>{ b with title:=o.title }) (if (aE t.brs o.unit).isSome then 0 else 7)):=by
 have hC:=h_164;have HC:=uZ hC;have HG:=uZ hG
 cases hb:aE t.brs o.unit with
 | none =>
  have KB:=h_175;dsimp only [Option.isSome_none];obtain⟨oi,od,ok,ou,op,ob,ol,ot,om,oo,oa,on⟩:=o;unfold Opn.agg;clear h hG hT hb hC;dsimp only [Opn.cells] at KB HC ⊢;go_enter Tryz.func94,Tryz.ntmps94;exact c_77
 | some b =>
  obtain⟨i,hi,-,ei⟩:=qJ hb;obtain⟨B,cap,hbv⟩:=h.at_ hi;have KB:=uZ (fun W (hW:aA w W)=>iO (h.grew hW) hT.asc hT.len hi hbv);have HD:=uZ (fun W (hW:aA w W)=>aAi (h.grew hW) (hG.trans hW) hT hi (j:=3) b_53 hbv (fun b=>{ b with title:=o.title }) (.string o.title) (fun _=>rfl) rfl ei);rw[ei] at KB;dsimp only [Option.isSome_some];generalize (jX t o.unit fun b=>{ b with title:=o.title })=R at HD ⊢;obtain⟨oi,od,ok,ou,op,ob,ol,ot,om,oo,oa,on⟩:=o;unfold Opn.agg;clear h hG hT hb hC hbv ei;dsimp only [Opn.cells] at KB HC HD ⊢;go_enter Tryz.func94,Tryz.ntmps94;go_wp2_with fail;refine(KB.out _ ((uX w).alloc _)).mono ?_;rintro e w1 ⟨rfl,g1⟩;obtain⟨-,-,-,-,o7,-⟩:=HC.out w1 g1;obtain⟨hd,hz,vz,hcz⟩:=HD.out w1 (((uX w).alloc _).trans g1);have HDD:=uZ hd;clear hd g1;dsimp only;go_wp2;go_ret;exact HDD.out
theorem bAj (h:EdB w0.heap.size E bv t w) (hG:aA w0 w) (hT:TOk t) (o:Opn) :
  Calls Tryz.prog 95 #[.pointer (some ⟨E,0,none⟩),o.agg] w (aBo w0 E (jX t o.unit fun b=>{ b with mark:=o.mark }) (if (aE t.brs o.unit).isSome then(if gF t o.mark o.unit then 19 else 0) else 7)):=by
 have hC:=h_164;have HC:=uZ hC;have HG:=uZ hG
 cases hb:aE t.brs o.unit with
 | none =>
  have KB:=h_175;dsimp only [Option.isSome_none];obtain⟨oi,od,ok,ou,op,ob,ol,ot,om,oo,oa,on⟩:=o;unfold Opn.agg;clear h hG hT hb hC;dsimp only [Opn.cells] at KB HC ⊢;go_enter Tryz.func95,Tryz.ntmps95;exact c_77
 | some b =>
  obtain⟨i,hi,-,ei⟩:=qJ hb;obtain⟨B,cap,hbv⟩:=h.at_ hi;have KB:=uZ (fun W (hW:aA w W)=>iO (h.grew hW) hT.asc hT.len hi hbv);have KU:=uZ (fun W (hW:aA w W)=>aTp (h.grew hW) hT o.mark o.unit);have HD:=uZ (fun W (hW:aA w W)=>aAi (h.grew hW) (hG.trans hW) hT hi (j:=4) b_53 hbv (fun b=>{ b with mark:=o.mark }) (.string o.mark) (fun _=>rfl) rfl ei);rw[ei] at KB;dsimp only [Option.isSome_some];generalize (jX t o.unit fun b=>{ b with mark:=o.mark })=R at HD ⊢;generalize gF t o.mark o.unit=q at KU ⊢;obtain⟨oi,od,ok,ou,op,ob,ol,ot,om,oo,oa,on⟩:=o;unfold Opn.agg;clear h hG hT hb hC hbv ei;dsimp only [Opn.cells] at KB KU HC HD ⊢;cases q
  ·go_enter Tryz.func95,Tryz.ntmps95
   go_wp2_with fail;refine(KB.out _ ((uX w).alloc _)).mono ?_;rintro e w1 ⟨rfl,g1⟩;obtain⟨o3,-,-,-,-,o8⟩:=HC.out w1 g1;have HG1:=uZ g1;clear g1;dsimp only;go_wp2_with fail;refine(KU.out _ (((uX w).alloc _).trans HG1.out)).mono ?_;rintro e w2 ⟨rfl,g2⟩;have p8:=uQ g2 o8;obtain⟨hd,hz,vz,hcz⟩:=HD.out w2 ((((uX w).alloc _).trans HG1.out).trans g2);have HDD:=uZ hd;clear hd g2 o3 o8;dsimp only;go_wp2;go_ret;exact HDD.out
  ·go_enter Tryz.func95,Tryz.ntmps95
   go_wp2_with fail;refine(KB.out _ ((uX w).alloc _)).mono ?_;rintro e w1 ⟨rfl,g1⟩;obtain⟨o3,-,-,-,-,o8⟩:=HC.out w1 g1;have HG1:=uZ g1;clear g1;dsimp only;go_wp2_with fail;refine(KU.out _ (((uX w).alloc _).trans HG1.out)).mono ?_;rintro e w2 ⟨rfl,g2⟩;have HG2:=uZ (HG.out.trans ((((uX w).alloc _).trans HG1.out).trans g2));clear g2 o3 o8;dsimp only;go_wp2;go_ret;exact⟨rfl,HG2.out,fun h=>by cases h⟩
end
theorem sU {w:World} {base:Nat} {e:TypeId} {k g m n cap:Nat} {xs:List Value} (h:w.ownsRow base e k (.slice (some ⟨g,0,none⟩) m cap) m xs) (hmn:m≤n) (hn:n≤cap):∃ ds,w.ownsRow base e k (.slice (some ⟨g,0,none⟩) n cap) n ds∧ds.take (m*k)=xs:=by
 obtain⟨hl,h2⟩:=h;rcases h2 with ⟨h3,_⟩|⟨g',cap',cur,hv,hb,hh,hnc,hcm,hcs,htk⟩
 ·cases h3
 ·injection hv with hA _ hc
  injection hA with hA;injection hA with hA _ _;subst hA hc;have hmk:m*k≤n*k:=Nat.mul_le_mul_right k hmn;have hnk:n*k≤cap*k:=Nat.mul_le_mul_right k hn;refine⟨cur.toList.take (n*k),⟨?_,.inr ⟨g,cap,cur,rfl,hb,hh,hn,hcm,hcs,rfl⟩⟩,?_⟩
  ·rw[List.length_take,Array.length_toList,hcs]
   omega
  ·rw[List.take_take,Nat.min_eq_left hmk]
   exact htk
theorem aNh {w0 w2:World} {base g cap N k:Nat} {e:TypeId} {xs ds ds2:List Value} (hds:ds.take (N*k)=xs) (h3:w2.ownsRow base e k (.slice (some ⟨g,0,none⟩) (N+1) cap) (N+1) ds2) (hd:∀ t,t<N*k→ds2[t]? = ds[t]?) (hg:w0.grownBy w2 (some g)) :
  w2.ownsRow base e k (.slice (some ⟨g,0,none⟩) N cap) N xs∧w0.grownBy w2 (some g):=by
 have h4:=wU h3 N (Nat.le_succ _)
 have:ds2.take (N*k)=xs:=by
  rw[← hds];apply List.ext_getElem?;intro t;rw[List.getElem?_take,List.getElem?_take];split
  ·next ht=>exact hd t ht
  ·rfl
 rw[this] at h4;exact⟨h4,hg⟩
theorem aWj (base:Nat) (cs:List BrC) (i:Nat) (hi:i<cs.length) (v:Value) (w:World) (hown:w.ownsRow base 66 6 v cs.length (cs.flatMap BrC.cells)) (hone:∀ c∈cs,c.kv.oneCell'=true) (hl:cs.length≤1000000) :
  Calls Tryz.prog 138 #[v,.int .i64 i,.int .i64 ((i:Int)+1)] w fun e w'=>∃ v',e=.returned v'∧w'.ownsRow base 66 6 v' (cs.eraseIdx i).length ((cs.eraseIdx i).flatMap BrC.cells)∧w.grownBy w' v.ownBlock∧v'.ownBlock=v.ownBlock:=by
 obtain⟨g,cap,rfl,hbg,hglt,hcap⟩:=fH hown b_53;have hcm:cap≤maxLen:=sV hown;unfold maxLen at hcm;obtain⟨i0,hi0,hz0,hz1,hz2⟩:=info_parts rD;obtain⟨N,hN⟩:∃ N,cs.length=N+1:=⟨cs.length-1,by omega⟩
 have hfl:=aL BrC.cells 6 (fun _=>rfl) cs;obtain⟨ht,hd⟩:=cT (f:=BrC.cells) (k:=6) (fun _=>rfl) cs i;obtain⟨-,hd1⟩:=cT (f:=BrC.cells) (k:=6) (fun _=>rfl) cs (i+1);have hcut:=wU hown i b_53
 have hE:(cs.eraseIdx i).flatMap BrC.cells=(cs.flatMap BrC.cells).take (i*6)++(cs.flatMap BrC.cells).drop ((i+1)*6):=by
  rw[List.eraseIdx_eq_take_drop_succ,List.flatMap_append,ht,hd1]
 have hEl:(cs.eraseIdx i).length=N:=by rw[List.length_eraseIdx_of_lt hi,hN];omega
 have hnl:((cs.flatMap BrC.cells).drop ((i+1)*6)).length=(N-i)*6:=by rw[List.length_drop,hfl,hN,← Nat.sub_mul];congr 1;omega
 -- the append
 have happ:∀ a:Addr,(0<N-i→a=⟨g,(i+1)*6,none⟩)→∃ w',(∀ ty,(Builtin.append_ #[41,41] ty #[.slice (some ⟨g,0,none⟩) i cap,.slice (some a) (N-i) (cap-(i+1))]).run Tryz.prog w.drew=.ok (.slice (some ⟨g,0,none⟩) N cap) w')∧w'.ownsRow base 66 6 (.slice (some ⟨g,0,none⟩) N cap) N ((cs.eraseIdx i).flatMap BrC.cells)∧w.grownBy w' (some g):=by
  intro a ha
  obtain⟨w',h1,h2,h3⟩:=run_append_fits (P:=Tryz.prog) w.drew base 41 0 66 i0 6 Tryz.underlying41 hi0 hz1 g i cap _ hcut a (N-i) (cap-(i+1)) ((cs.flatMap BrC.cells).drop ((i+1)*6)) hnl (fun j u hj=>by
   have hpos:0<N-i:=by
    have:=(List.getElem?_eq_some_iff.1 hj).1;omega
   rw[ha hpos,bT];have hc:=hown.cellAt ((i+1)*6+j) (by have:=(List.getElem?_eq_some_iff.1 hj).1;omega);show w.cell? _=_;rw[hc,← List.getElem?_drop]
   exact hj) (fun u hu=>cY cs hone u (List.mem_of_mem_drop hu)) b_53
  rw[show i+(N-i)=N by omega] at h1 h2;refine⟨w',fun ty=>h1,?_,⟨h3.os,h3.tape,h3.output,h3.size,h3.block⟩⟩;rw[hE];exact h2
 rw[hEl];generalize (cs.eraseIdx i).flatMap BrC.cells=XS at happ ⊢;rw[hN] at hcap hi hown ⊢;clear hfl ht hd hd1 hE hEl hnl hown hcut hone hl hN;have hiz:(i:Int)≤((N+1:Nat):Int):=by omega
 have hi1:((i:Int)+1)≤((N+1:Nat):Int):=by omega
 have h0z:=h_215;have h1z:=h_211;have hiz2:(i:Int)≤(i:Int)+1:=by omega
 have hne:((i:Int) == (i:Int)+1)=false:=beq_eq_false_iff_ne.2 b_53;have htn:=h_202;have hi2:i≤N+1:=by omega
 have hi3:i+1≤N+1:=by omega
 have hi4:i≤N:=by omega
 have hi5:i≤cap:=by omega
 have hsub:N+1-(i+1)=N-i:=by omega
 by_cases hcc:cap=i+1
 ·obtain⟨w1,hrun,ho1,hg1⟩:=happ ⟨g,0,none⟩ b_53
  obtain rfl:N=i:=by omega
  subst hcc;simp only [Nat.sub_self] at hrun;clear happ;go_enter Tryz.func138,Tryz.ntmps138;go_wp2_with fail;refine bN 6 (by kernel_rfl) (by kernel_rfl) ?_;simp only [List.take_succ_cons,List.take_zero,List.drop_succ_cons,List.drop_zero]
  iterate 6 still_step
  refine wpStill_nil ?_;refine Lib.wpList_append_run _ rfl _ _ _ _ rfl _ _ rfl rfl _ _ (hrun _) ?_;obtain⟨ds,ho2,hds⟩:=sU ho1 (Nat.le_succ _) (Nat.le_refl _);obtain⟨w2,ds2,hclr,ho3,hg3,hd3⟩:=iI (P:=Tryz.prog) w1 41 66 0 (.agg #[.int .i64 0,.int .i64 0,.int .i64 0,.string ⟨#[]⟩,.string ⟨#[]⟩,.slice none 0 0]) 6 Tryz.underlying41 Tryz.zeroValue66 rfl b_53 (by simp[Value.cells,Value.oneCell']) ho2 N ((N+1)-N) (Nat.lt_succ_self _)
  have hclr':∀ ty,(Builtin.clear_ #[41] ty #[.slice (some ⟨g,N*6,none⟩) 1 1]).run Tryz.prog w1=.ok (.tuple #[]) w2:=fun _=>by
   have h:=hclr;rw[show N+1-N=1 by omega] at h;exact h
  have HFIN:=uZ (aNh hds ho3 (fun t ht=>hd3 t ht) (hg1.trans hg3));have hnz:(0:Int)≤(N:Int):=by omega
  have hnz1:(N:Int)≤((N+1:Nat):Int):=by omega
  have hnn:¬ (N+1)=N:=by omega
  have hsb:N+1-N=1:=by omega
  clear ho1 hg1 hrun ho2 hds hclr ho3 hg3 hd3;go_wp2;go_ret;exact⟨_,rfl,HFIN.out.1,HFIN.out.2,rfl⟩
 ·obtain⟨w1,hrun,ho1,hg1⟩:=happ ⟨g,(i+1)*6,none⟩ (fun _=>rfl)
  clear happ;go_enter Tryz.func138,Tryz.ntmps138;go_wp2_with fail;refine bN 6 (by kernel_rfl) (by kernel_rfl) ?_;simp only [List.take_succ_cons,List.take_zero,List.drop_succ_cons,List.drop_zero]
  iterate 6 still_step
  refine wpStill_nil ?_;refine Lib.wpList_append_run _ rfl _ _ _ _ rfl _ _ rfl rfl _ _ (hrun _) ?_;obtain⟨ds,ho2,hds⟩:=sU ho1 (Nat.le_succ _) hcap;obtain⟨w2,ds2,hclr,ho3,hg3,hd3⟩:=iI (P:=Tryz.prog) w1 41 66 0 (.agg #[.int .i64 0,.int .i64 0,.int .i64 0,.string ⟨#[]⟩,.string ⟨#[]⟩,.slice none 0 0]) 6 Tryz.underlying41 Tryz.zeroValue66 rfl b_53 (by simp[Value.cells,Value.oneCell']) ho2 N (cap-N) (Nat.lt_succ_self _)
  have hclr':∀ ty,(Builtin.clear_ #[41] ty #[.slice (some ⟨g,N*6,none⟩) 1 (cap-N)]).run Tryz.prog w1=.ok (.tuple #[]) w2:=fun _=>by
   have h:=hclr;rw[show N+1-N=1 by omega] at h;exact h
  have HFIN:=uZ (aNh hds ho3 (fun t ht=>hd3 t ht) (hg1.trans hg3));have hnz:(0:Int)≤(N:Int):=by omega
  have hnz1:(N:Int)≤((N+1:Nat):Int):=by omega
  have hnn:¬ cap=N:=by omega
  have hsb:N+1-N=1:=by omega
  clear ho1 hg1 hrun ho2 hds hclr ho3 hg3 hd3;go_wp2;go_ret;exact⟨_,rfl,HFIN.out.1,HFIN.out.2,rfl⟩
end Go.Proofs.YtdochkemaiokfaaGreat



