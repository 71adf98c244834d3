/- Lemmas on what the functions of the program and of the library compute: PlainO, Ed1, PlainP, Ed2, Es1, Del3, PlainQ, Es2, Es3. The conditions stand at each. -/
import Derived.Test.YtdochkemaiokfaaGreatQ5
import Derived.Test.YtdochkemaiokfaaGreatQ6
import Derived.Test.YtdochkemaiokfaaGreatQ1
import Derived.Test.YtdochkemaiokfaaGreatQ4
import Derived.Test.YtdochkemaiokfaaGreatQ2
set_option maxHeartbeats 16000000
set_option maxRecDepth 100000
set_option linter.all false
namespace Go.Proofs.YtdochkemaiokfaaGreat
open Go.RowKit
theorem lE {l:List Br} {P:Br→Prop}:(∀ i (h:i<l.length),P l[i])↔∀ b∈l,P b:=by
 constructor
 ·intro h b hb
  obtain⟨k,hk,rfl⟩:=List.mem_iff_getElem.1 hb;exact h k hk
 ·exact fun h i hi=>h _ (List.getElem_mem hi)
theorem oS (t:Tr):aBi t↔bG t:=by
 constructor
 ·rintro ⟨h0,h1,h2,h3,h4,h5⟩
  obtain⟨ha,hu,hm⟩:=(aBe t.brs).1 h1;have hp:=(lE (P:=aX t.brs)).1 h2;refine⟨h0,ha,hu,hm,hp,fun b hb=>(kX ha _ _).2 ((lE (P:=fun b=>sortI b.kids=bH t.brs b.id)).1 h3 b hb),(kX ha _ _).2 h4,zQ ha (uS hp) ((lE (P:=fun b=>(dJ t.brs t.brs.length b).isSome=true)).1 h5)⟩
 ·rintro ⟨h0,ha,hu,hm,hp,hk,hr,r,hrk⟩
  refine⟨h0,(aBe t.brs).2 ⟨ha,hu,hm⟩,(lE (P:=aX t.brs)).2 hp,(lE (P:=fun b=>sortI b.kids=bH t.brs b.id)).2 fun b hb=>(kX ha _ _).1 (hk b hb),(kX ha _ _).1 hr,(lE (P:=fun b=>(dJ t.brs t.brs.length b).isSome=true)).2 fun b hb=>aNi ha hb (aAp (uS hp) r hrk (r b.id) b hb (Nat.le_refl _))⟩
theorem bL {t:Tr} (h:aM t):bG t:=by
 refine(oS t).1 ⟨h.1,h.2.1,h.2.2.1,h.2.2.2.1,h.2.2.2.2.1,fun i hi=>?_⟩;obtain⟨d,hd,-⟩:=h.2.2.2.2.2 i hi;rw[hd];rfl
theorem lQ (t:Tr):aM t↔bG t∧∀ b∈t.brs,eD t.brs b:=by
 constructor
 ·exact fun h=>⟨bL h,(lE (P:=eD t.brs)).1 h.2.2.2.2.2⟩
 ·rintro ⟨h,hd⟩
  obtain⟨h0,h1,h2,h3,h4,-⟩:=(oS t).2 h;exact⟨h0,h1,h2,h3,h4,(lE (P:=eD t.brs)).2 hd⟩
structure Opn where
 id:Int
 day:Int
 kind:Int
 unit:Int
 parent:Int
 before:Int
 level:Int
 title:ByteArray
 mark:ByteArray
 office:Int
 acc:Int
 num:Int
deriving DecidableEq,Inhabited
def aB (t:Tr) (p:Int):List Int:=if p=0 then t.roots else match aE t.brs p with
 | none=>[]
 | some b=>b.kids
def fW (t:Tr) (p:Int) (ks:List Int):Tr:=if p=0 then⟨ks,t.brs⟩ else⟨t.roots,t.brs.map fun b=>if b.id=p then { b with kids:=ks } else b⟩
def iL (n before:Int):List Int→List Int
 | []=>if before=0 then[n] else[]
 | x::r=>if x=before then n::x::r else x::iL n before r
def aI (n:Int) (l:List Int):List Int:=l.filter fun x=>!(x == n)
def lI (b:Br):List Br→List Br
 | []=>[b]
 | x::r=>if x.id<b.id then x::lI b r else b::x::r
def jX (t:Tr) (n:Int) (f:Br→Br):Tr:=⟨t.roots,t.brs.map fun b=>if b.id=n then f b else b⟩
def fF (t:Tr) (o:Opn):Tr :=
 let t1:=fW t o.parent (iL o.unit o.before (aB t o.parent))
 ⟨t1.roots,lI ⟨o.unit,o.parent,o.level,o.title,o.mark,[]⟩ t1.brs⟩
def jM (t:Tr) (o:Opn) (u:Br):Tr :=
 let t1:=fW t u.parent (aI o.unit (aB t u.parent))
 let t2:=fW t1 o.parent (iL o.unit o.before (aB t1 o.parent))
 jX t2 o.unit fun b=>{ b with parent:=o.parent }
def fJ (t:Tr) (o:Opn) (u:Br):Tr :=
 let t1:=fW t u.parent (aI o.unit (aB t u.parent))
 ⟨t1.roots,t1.brs.filter fun b=>!(b.id == o.unit)⟩
def pR (base:Nat) (w:World) (v:Value) (l:List Int):Prop:=w.ownsRow base 3 1 v l.length (l.flatMap eE)
def oP (vs:List Value):Prop:=vs.Pairwise fun a b=>∀ g,a.ownBlock=some g→b.ownBlock≠some g
structure Ed (base E:Nat) (rv bv:Value) (cs:List BrC) (t:Tr) (w:World):Prop where
 le:base≤E
 box:w.heap[E]? = some (.cells #[rv,bv] 128 (0,0))
 roots:pR base w rv t.roots
 brs:w.ownsRow base 66 6 bv t.brs.length (cs.flatMap BrC.cells)
 len:cs.length=t.brs.length
 each:∀ i (h:i<cs.length) (h':i<t.brs.length),cs[i]=t.brs[i].c cs[i].kv∧pR base w cs[i].kv t.brs[i].kids
 apart:oP (rv::cs.map BrC.kv)
def EdS (base E:Nat) (t:Tr) (w:World):Prop:=∃ rv bv cs,Ed base E rv bv cs t w
theorem rI:(3:Nat)≠66:=by decide
theorem aCp:(3:Nat)≠128:=by decide
theorem aHn:(66:Nat)≠128:=by decide
section
variable {base E n k g:Nat} {rv bv v v':Value} {cs:List BrC} {t:Tr} {w w1 w':World} {e e':TypeId} {xs:List Value}
theorem uT (h:w.ownsRow base e k v n xs) (hg:v.ownBlock=some g):∃ cur,w.heap[g]? = some (.cells cur e (0,0)):=by
 rcases h.2 with ⟨rfl,_⟩|⟨g',cap,cur,rfl,_,hh,_⟩
 ·simp[Value.ownBlock] at hg
 ·simp[Value.ownBlock] at hg
  subst hg;exact⟨cur,hh⟩
theorem cR (h:w.ownsRow base e k v n xs) {cur:Array Value} (hg:w.heap[g]? = some (.cells cur e' (0,0))) (hne:e≠e'):v.ownBlock≠some g:=by
 intro hb;obtain⟨c,hc⟩:=uT h hb;rw[hg] at hc;injection hc with hc;injection hc with _ hc _;exact hne hc.symm
theorem lY {n' k':Nat} {xs':List Value} (h:w.ownsRow base e k v n xs) (h':w.ownsRow base e' k' v' n' xs') (hne:e≠e'):∀ g,v.ownBlock=some g→v'.ownBlock≠some g:=by
 intro g hg hg';obtain⟨c,hc⟩:=uT h' hg';exact cR h hc hne hg
theorem iM (h:w.ownsRow base e k v n xs) {row:Option Nat} (hg:w.grownBy w' row) (hne:∀ g,row=some g→v.ownBlock≠some g):w'.ownsRow base e k v n xs:=by
 refine h.kept hg ?_
 cases hv:v.ownBlock with
 | none=>exact .inl rfl
 | some b=>exact .inr fun e=>hne b e.symm hv
theorem gV {row:Option Nat} {o:Obj} (h:w.heap[g]? = some o) (hg:w.grownBy w' row) (hne:row≠some g):w'.heap[g]? = some o:=by
 rw[hg.block g (Array.getElem?_eq_some_iff.1 h).1 (fun e=>hne e.symm)];exact h
theorem cG (a:Addr) (u:Value) {o:Obj} (h:w.heap[g]? = some o) (hne:g≠a.block):(w.setCell a u).heap[g]? = some o:=by rw[Below.heap_setCell _ _ _ _ hne];exact h
theorem Ed.grew (h:Ed base E rv bv cs t w) (hg:aA w w'):Ed base E rv bv cs t w' where
 le:=h.le
 box:=by rw[hg.block E (Array.getElem?_eq_some_iff.1 h.box).1];exact h.box
 roots:=aZ h.roots hg
 brs:=aZ h.brs hg
 len:=h.len
 each:=fun i hi hi'=>⟨(h.each i hi hi').1,aZ (h.each i hi hi').2 hg⟩
 apart:=h.apart
theorem EdS.grew (h:EdS base E t w) (hg:aA w w'):EdS base E t w':=by
 obtain⟨rv,bv,cs,h⟩:=h;exact⟨rv,bv,cs,h.grew hg⟩
theorem Ed.tree (h:Ed base E rv bv cs t w):SlI w rv t.roots∧bQ w bv t.brs:=by
 have h1:Rd w 1 rv (t.roots.flatMap eE):=Rd.of_own h.roots;exact⟨h1,cs,Rd.of_own h.brs,h.len,fun i hi hi'=>⟨(h.each i hi hi').1,Rd.of_own (h.each i hi hi').2⟩⟩
theorem Ed.cells (h:Ed base E rv bv cs t w):w.cell? ⟨E,0,none⟩=some rv∧w.cell? ⟨E,1,none⟩=some bv∧w.frozen? ⟨E,0,none⟩=false∧w.frozen? ⟨E,1,none⟩=false:=by
 have hb:=h.box;simp[World.cell?,World.frozen?,hb]
theorem Ed.one (h:Ed base E rv bv cs t w):∀ c∈cs,c.kv.oneCell'=true:=by
 intro c hc;obtain⟨i,hi,rfl⟩:=List.mem_iff_getElem.1 hc;obtain⟨_,h2⟩:=h.each i hi (by have:=h.len;omega);rcases h2.2 with ⟨e,_⟩|⟨g,cap,cur,e,_⟩
 ·rw[e];rfl
 ·rw[e];rfl
theorem rV {c c':BrC} {j:Nat} {u:Value} (hj:j<6) (hc:c'.cells=c.cells.set j u):∀(cs:List BrC) (i:Nat) (hi:i<cs.length),cs[i]=c→(cs.flatMap BrC.cells).set (i*6+j) u=(cs.set i c').flatMap BrC.cells
 | [],i,hi,_=>absurd hi (Nat.not_lt_zero _)
 | x::r,0,_,e=>by
  simp only [List.getElem_cons_zero] at e;subst e;rw[List.set_cons_zero,List.flatMap_cons,List.flatMap_cons,hc,Nat.zero_mul,Nat.zero_add,List.set_append_left _ _ (by simpa [BrC.cells] using hj)]
 | x::r,i+1,hi,e=>by
  have hl:x.cells.length=6:=rfl;have ih:=rV hj hc r i (by simpa using hi) (by simpa using e);rw[List.set_cons_succ,List.flatMap_cons,List.flatMap_cons,List.set_append_right _ _ b_53,← ih]
  congr 2
  omega
theorem oP.head {x y:Value} {l:List Value} (h:oP (x::l)) (hy:y.ownBlock=x.ownBlock∨∀ g,y.ownBlock=some g→∀ v∈l,v.ownBlock≠some g):oP (y::l):=by
 obtain⟨h1,h2⟩:=List.pairwise_cons.1 h;refine List.pairwise_cons.2 ⟨fun v hv g hg=>?_,h2⟩;rcases hy with hy|hy
 ·exact h1 v hv g (by rw[← hy];exact hg)
 ·exact hy g hg v hv
theorem oP.at_ {l:List Value} (h:oP l) {i j:Nat} (hi:i<l.length) (hj:j<l.length) (hij:i≠j):∀ g,l[i].ownBlock=some g→l[j].ownBlock≠some g:=by
 intro g hg hg';rcases Nat.lt_or_gt_of_ne hij with hlt|hlt
 ·exact List.pairwise_iff_getElem.1 h i j hi hj hlt g hg hg'
 ·exact List.pairwise_iff_getElem.1 h j i hj hi hlt g hg' hg
theorem oP.of {l:List Value} (h:∀ i j (hi:i<l.length) (hj:j<l.length),i<j→∀ g,l[i].ownBlock=some g→l[j].ownBlock≠some g):oP l:=List.pairwise_iff_getElem.2 fun i j hi hj hij=>h i j hi hj hij
theorem oP.set {y:Value} {l:List Value} (h:oP l) {i:Nat} (hi:i<l.length) (hy:y.ownBlock=l[i].ownBlock∨∀ g,y.ownBlock=some g→∀ v∈l,v.ownBlock≠some g):oP (l.set i y):=by
 refine oP.of fun a b ha hb hab g hg hg'=>?_
 have ha2:a<l.length:=by simpa using ha
 have hb2:b<l.length:=by simpa using hb
 by_cases e1:a=i
 ·subst e1
  rw[List.getElem_set_self] at hg;rw[List.getElem_set_ne b_53] at hg';rcases hy with hy|hy
  ·exact h.at_ ha2 hb2 b_53 g (by rw[← hy];exact hg) hg'
  ·exact hy g hg _ (List.getElem_mem hb2) hg'
 ·rw[List.getElem_set_ne b_53] at hg
  by_cases e2:b=i
  ·subst e2
   rw[List.getElem_set_self] at hg';rcases hy with hy|hy
   ·exact h.at_ ha2 hb2 b_53 g hg (by rw[← hy];exact hg')
   ·exact hy g hg' _ (List.getElem_mem ha2) hg
  ·rw[List.getElem_set_ne b_53] at hg'
   exact h.at_ ha2 hb2 b_53 g hg hg'
theorem Ed.rows (h:Ed base E rv bv cs t w):∀ v∈rv::cs.map BrC.kv,∃ l,pR base w v l:=by
 intro v hv;rcases List.mem_cons.1 hv with e|hv
 ·exact⟨_,by rw[e];exact h.roots⟩
 ·obtain⟨c,hc,rfl⟩:=List.mem_map.1 hv
  obtain⟨i,hi,rfl⟩:=List.mem_iff_getElem.1 hc;exact⟨_,(h.each i hi (by have:=h.len;omega)).2⟩
theorem Ed.fresh (h:Ed base E rv bv cs t w) (hv:∀ b,v'.ownBlock=some b→w.heap.size≤b):∀ g,v'.ownBlock=some g→∀ v∈rv::cs.map BrC.kv,v.ownBlock≠some g:=by
 intro g hg v hm hb;obtain⟨l,hl⟩:=h.rows v hm;have:=(hl.lt g hb).2;have:=hv g hg;omega
theorem Ed.setRoots (h:Ed base E rv bv cs t w) (hg:w.grownBy w1 rv.ownBlock) {ks:List Int} (hv:pR base w1 v' ks) (hat:v'.ownBlock=rv.ownBlock∨∀ b,v'.ownBlock=some b→w.heap.size≤b):Ed base E v' bv cs ⟨ks,t.brs⟩ (w1.setCell ⟨E,0,none⟩ v'):=by
 have hbx:w1.heap[E]? = some (.cells #[rv,bv] 128 (0,0)):=gV h.box hg (cR h.roots h.box aCp);have hbr:=iM h.brs hg (fun g hr=>lY h.roots h.brs rI g hr);refine⟨h.le,?_,?_,?_,h.len,fun i hi hi'=>⟨(h.each i hi hi').1,?_⟩,h.apart.head (hat.imp_right fun hf g hg v hm=>h.fresh hf g hg v (List.mem_cons_of_mem _ hm))⟩
 ·have:=heap_setCell_same w1 E 0 #[rv,bv] 128 v' hbx
  simpa using this
 ·exact ownsRow_setCell_other hv (cR hv hbx aCp) _
 ·exact ownsRow_setCell_other hbr (cR hbr hbx aHn) _
 ·have h1:=iM (h.each i hi hi').2 hg (fun g hr=>(List.pairwise_cons.1 h.apart).1 _ (List.mem_map.2 ⟨_,List.getElem_mem hi,rfl⟩) g hr)
  exact ownsRow_setCell_other h1 (cR h1 hbx aCp) _
theorem Ed.poke (h:Ed base E rv bv cs t w) {i j:Nat} (hi:i<cs.length) (hi':i<t.brs.length) (hj:j<6) {row:Option Nat} (hg:w.grownBy w1 row) (hrow:row=none∨row=cs[i].kv.ownBlock) {c':BrC} {b':Br} {u:Value} (hc:c'.cells=cs[i].cells.set j u) (hb:c'=b'.c c'.kv)
  (hk:pR base w1 c'.kv b'.kids) (hat:c'.kv.ownBlock=cs[i].kv.ownBlock∨∀ b,c'.kv.ownBlock=some b→w.heap.size≤b):∃ B cap,bv=.slice (some ⟨B,0,none⟩) t.brs.length cap∧Ed base E rv bv (cs.set i c') ⟨t.roots,t.brs.set i b'⟩ (w1.setCell ⟨B,i*6+j,none⟩ u):=by
 obtain⟨B,cap,hbv,hbb,-,-⟩:=fH h.brs b_53;subst hbv;have hkv:=(h.each i hi hi').2;have hmem:cs[i].kv∈cs.map BrC.kv:=List.mem_map.2 ⟨_,List.getElem_mem hi,rfl⟩
 have hoff:∀ v∈rv::cs.map BrC.kv,(∃ m,m<(rv::cs.map BrC.kv).length∧m≠i+1∧(rv::cs.map BrC.kv)[m]? = some v)→∀ g,row=some g→v.ownBlock≠some g:=by
  rintro v _ ⟨m,hm,hne,e⟩ g hr;rcases hrow with h0|h0
  ·rw[h0] at hr;cases hr
  rw[h0] at hr;have e2:(rv::cs.map BrC.kv)[m]=v:=by rw[List.getElem?_eq_getElem hm] at e;exact Option.some.inj e
  have:=h.apart.at_ (i:=i+1) (j:=m) (by simpa using hi) hm (fun e=>hne e.symm) g (by simpa using hr);rw[e2] at this;exact this
 have hrowI:∀ g,row=some g→cs[i].kv.ownBlock=some g:=fun g hr=>by
  rcases hrow with h0|h0
  ·rw[h0] at hr;cases hr
  ·rw[← h0];exact hr
 have hbx:w1.heap[E]? = some (.cells #[rv,.slice (some ⟨B,0,none⟩) t.brs.length cap] 128 (0,0)):=gV h.box hg (fun e=>cR hkv h.box aCp (hrowI E e));have hbr:=iM h.brs hg (fun g hr=>lY hkv h.brs rI g (hrowI g hr));obtain⟨curB,hB⟩:=uT hbr (g:=B) rfl;have hrt:=iM h.roots hg (fun g hr=>hoff rv (List.mem_cons_self ..) ⟨0,by simp,by omega,rfl⟩ g hr);refine⟨B,cap,rfl,h.le,cG _ _ hbx (fun e=>cR hbr hbx aHn (by simp[Value.ownBlock];exact e.symm)),ownsRow_setCell_other hrt (cR hrt hB rI) _,?_,by simp[h.len],fun m hm hm'=>?_,?_⟩
 ·have h1:=(hbr.stored (i*6+j) u).1
  rw[rV hj hc cs i hi rfl] at h1;simpa using h1
 ·have hm2:m<cs.length:=by simpa using hm
  have hm3:m<t.brs.length:=by simpa using hm'
  by_cases e:m=i
  ·subst e
   rw[List.getElem_set_self,List.getElem_set_self];exact⟨hb,ownsRow_setCell_other hk (cR hk hB rI) _⟩
  ·rw[List.getElem_set_ne b_53,List.getElem_set_ne b_53]
   obtain⟨e1,e2⟩:=h.each m hm2 hm3;refine⟨e1,?_⟩;have h1:=iM e2 hg (fun g hr=>hoff cs[m].kv (List.mem_cons_of_mem _ (List.mem_map.2 ⟨_,List.getElem_mem hm2,rfl⟩)) ⟨m+1,by simpa using hm2,by omega,by simp[hm2]⟩ g hr);exact ownsRow_setCell_other h1 (cR h1 hB rI) _
 ·have h1:=h.apart.set (i:=i+1) (y:=c'.kv) (by simpa using hi) (by simpa using hat.imp_right fun hf g hg v hm=>h.fresh hf g hg v hm)
  simpa [List.map_set] using h1
theorem Ed.setBrs (h:Ed base E rv bv cs t w) (hg:w.grownBy w1 bv.ownBlock) {ds:List BrC} {l:List Br} (hv:w1.ownsRow base 66 6 v' l.length (ds.flatMap BrC.cells)) (hlen:ds.length=l.length)
  (hea:∀ i (h:i<ds.length) (h':i<l.length),ds[i]=l[i].c ds[i].kv∧pR base w1 ds[i].kv l[i].kids) (hap:oP (rv::ds.map BrC.kv)):Ed base E rv v' ds ⟨t.roots,l⟩ (w1.setCell ⟨E,1,none⟩ v'):=by
 have hbx:w1.heap[E]? = some (.cells #[rv,bv] 128 (0,0)):=gV h.box hg (cR h.brs h.box aHn);have hrt:=iM h.roots hg (fun g hr hv=>lY h.roots h.brs rI g hv hr);refine⟨h.le,?_,ownsRow_setCell_other hrt (cR hrt hbx aCp) _,ownsRow_setCell_other hv (cR hv hbx aHn) _,hlen,fun i hi hi'=>⟨(hea i hi hi').1,ownsRow_setCell_other (hea i hi hi').2 (cR (hea i hi hi').2 hbx aCp) _⟩,hap⟩;have:=heap_setCell_same w1 E 1 #[rv,bv] 128 v' hbx;simpa using this
end
def mK (b:Br):Br:={ b with kids:=[] }
structure aEh (l:List Br):Prop where
 len:l.length≤256
 asc:bP l
 units:∀ b∈l,nU b
 marks:∀ b∈l,∀ c∈l,b.mark.toList.isEmpty=false→b.mark.toList=c.mark.toList→b.id=c.id
 placed:∀ b∈l,aX l b
 rank:∃ r:Int→Nat,∀ b∈l,b.parent≠0→r b.parent<r b.id
theorem aFt {l:List Br} (h:bP l) (n:Int) (b:Br):aE l n=some b↔b∈l∧b.id=n :=
 ⟨bE,fun⟨h1,h2⟩=>by rw[← h2];exact dN h h1⟩
theorem fE {l:List Br} (n:Int):aE l n=none↔∀ b∈l,b.id≠n:=by
 unfold aE;rw[List.find?_eq_none];simp
theorem aFs {p c:Int} (h:fX p c=true):c≠1:=by
 unfold fX aN at h;simp at h;omega
theorem cQ {l:List Br} (h:bP l) (b:Br):aX l b↔(b.parent=0∧b.level=1)∨(b.parent≠0∧∃ p∈l,p.id=b.parent∧fX p.level b.level=true):=by
 unfold aX;by_cases hp:b.parent=0
 ·simp[hp]
 ·rw[if_neg hp]
  constructor
  ·rintro ⟨p,hf,h1,h2⟩
   have:=bE hf;exact .inr ⟨hp,p,this.1,this.2,h2⟩
  ·rintro (⟨h0,_⟩|⟨_,p,hm,hi,hf⟩)
   ·exact absurd h0 hp
   ·exact⟨p,by rw[← hi];exact dN h hm,aFs hf,hf⟩
theorem bZ {a b:Br} (h:mK a=mK b):a.id=b.id∧a.parent=b.parent∧a.level=b.level∧a.title=b.title∧a.mark=b.mark:=by
 obtain⟨a0,a1,a2,a3,a4,a5⟩:=a;obtain⟨b0,b1,b2,b3,b4,b5⟩:=b;simp only [mK,Br.mk.injEq,and_true] at h;exact h
theorem aRw {l:List Br} (g:Br→Br) (hg:∀ b,mK (g b)=mK b) (h:aEh l):aEh (l.map g):=by
 have e1:∀ b,(g b).id=b.id:=fun b=>(bZ (hg b)).1
 have e2:∀ b,(g b).parent=b.parent:=fun b=>(bZ (hg b)).2.1
 have e3:∀ b,(g b).level=b.level:=fun b=>(bZ (hg b)).2.2.1
 have e4:∀ b,(g b).title=b.title:=fun b=>(bZ (hg b)).2.2.2.1
 have e5:∀ b,(g b).mark=b.mark:=fun b=>(bZ (hg b)).2.2.2.2
 have hasc:bP (l.map g):=List.Pairwise.map _ (fun a b hab=>by rw[e1,e1];exact hab) h.asc;refine⟨by rw[List.length_map];exact h.len,hasc,?_,?_,?_,?_⟩
 ·intro b hb
  obtain⟨c,hc,rfl⟩:=List.mem_map.1 hb;have:=h.units c hc;unfold nU at this ⊢;rw[e1,e3,e4,e5];exact this
 ·intro b hb c hc
  obtain⟨b1,hb1,rfl⟩:=List.mem_map.1 hb;obtain⟨c1,hc1,rfl⟩:=List.mem_map.1 hc;rw[e1,e1,e5,e5];exact h.marks b1 hb1 c1 hc1
 ·intro b hb
  obtain⟨b1,hb1,rfl⟩:=List.mem_map.1 hb;rw[cQ hasc,e2,e3];rcases (cQ h.asc b1).1 (h.placed b1 hb1) with h1|⟨h1,p,hp,h2,h3⟩
  ·exact .inl h1
  ·exact .inr ⟨h1,g p,List.mem_map.2 ⟨p,hp,rfl⟩,by rw[e1];exact h2,by rw[e3];exact h3⟩
 ·obtain⟨r,hr⟩:=h.rank
  refine⟨r,fun b hb=>?_⟩;obtain⟨b1,hb1,rfl⟩:=List.mem_map.1 hb;rw[e1,e2];exact hr b1 hb1
theorem aRa {l:List Br} (g:Br→Br) (hg:∀ b,mK (g b)=mK b) (ks:List Int) (p:Int):fK (l.map g) ks p↔fK l ks p:=by
 have e1:∀ b,(g b).id=b.id:=fun b=>(bZ (hg b)).1
 have e2:∀ b,(g b).parent=b.parent:=fun b=>(bZ (hg b)).2.1
 unfold fK
 have hx:∀ x,(∃ b∈l.map g,b.parent=p∧b.id=x)↔∃ b∈l,b.parent=p∧b.id=x:=by
  intro x;constructor
  ·rintro ⟨b,hb,h1,h2⟩
   obtain⟨c,hc,rfl⟩:=List.mem_map.1 hb;rw[e2] at h1;rw[e1] at h2;exact⟨c,hc,h1,h2⟩
  ·rintro ⟨b,hb,h1,h2⟩
   exact⟨g b,List.mem_map.2 ⟨b,hb,rfl⟩,by rw[e2];exact h1,by rw[e1];exact h2⟩
 simp only [hx]
def aXb (t:Tr):Prop:=∀ p,(p=0∨∃ b∈t.brs,b.id=p)→fK t.brs (aB t p) p
theorem cC {b:Br} (h:nU b):b.id≠0:=by
 have:=vX.1 h.1;omega
theorem jU {t:Tr} (h:bP t.brs) {b:Br} (hb:b∈t.brs) (h0:b.id≠0):aB t b.id=b.kids:=by
 unfold aB;rw[if_neg h0,dN h hb]
theorem bX (t:Tr):bG t↔aEh t.brs∧aXb t:=by
 constructor
 ·intro h
  refine⟨⟨h.len,h.asc,h.units,h.marks,h.placed,h.rank⟩,fun p hp=>?_⟩;rcases hp with rfl|⟨b,hb,rfl⟩
  ·exact h.roots
  ·rw[jU h.asc hb (cC (h.units b hb))]
   exact h.kids b hb
 ·rintro ⟨h,hk⟩
  refine⟨h.len,h.asc,h.units,h.marks,h.placed,fun b hb=>?_,hk 0 (.inl rfl),h.rank⟩;have:=hk b.id (.inr ⟨b,hb,rfl⟩);rw[jU h.asc hb (cC (h.units b hb))] at this;exact this
def jD (p:Int) (ks:List Int) (b:Br):Br:=if b.id=p then { b with kids:=ks } else b
theorem fC (p:Int) (ks:List Int) (b:Br):mK (jD p ks b)=mK b:=by
 unfold jD mK;split<;>rfl
theorem dH (t:Tr) (p:Int) (ks:List Int):(fW t p ks).brs=if p=0 then t.brs else t.brs.map (jD p ks):=by
 unfold fW jD;split<;>rfl
theorem oV {t:Tr} (p:Int) (ks:List Int) (h:aEh t.brs):aEh (fW t p ks).brs:=by
 rw[dH];split
 ·exact h
 ·exact aRw _ (fC p ks) h
theorem oT (t:Tr) (p:Int) (ks:List Int) (qs:List Int) (q:Int):fK (fW t p ks).brs qs q↔fK t.brs qs q:=by
 rw[dH];split
 ·exact Iff.rfl
 ·exact aRa _ (fC p ks) qs q
theorem pF {l:List Br} (g:Br→Br) (hg:∀ b,(g b).id=b.id) (n:Int):aE (l.map g) n=(aE l n).map g:=by
 unfold aE;rw[List.find?_map]
 congr 1
 congr 1
 funext b
 simp[hg]
theorem gH {t:Tr} (p:Int) (ks:List Int) (q:Int) (hp:p=0∨∃ b∈t.brs,b.id=p):aB (fW t p ks) q=if q=p then ks else aB t q:=by
 by_cases h0:p=0
 ·subst h0
  unfold aB fW;simp only [if_true];by_cases hq:q=0<;>simp[hq]
 ·have hs:fW t p ks=⟨t.roots,t.brs.map (jD p ks)⟩:=by
   unfold fW jD;rw[if_neg h0]
  rw[hs];unfold aB;by_cases hq:q=0
  ·subst hq
   rw[if_pos rfl,if_pos rfl,if_neg (fun e=>h0 e.symm)]
  ·simp only [if_neg hq]
   rw[pF _ (fun b=>(bZ (fC p ks b)).1)]
   cases hf:aE t.brs q with
   | none =>
    have hn:=(fE q).1 hf
    have hqp:q≠p:=by
     rintro rfl;rcases hp with h|⟨b,hb,e⟩
     ·exact h0 h
     ·exact hn b hb e
    rw[if_neg hqp];rfl
   | some b =>
    have hb:=bE hf;show(jD p ks b).kids=_;unfold jD;by_cases hqp:q=p
    ·rw[if_pos hqp,if_pos (by rw[hb.2];exact hqp)]
    ·rw[if_neg hqp,if_neg (by rw[hb.2];exact hqp)]
theorem oU (t:Tr) (p:Int) (ks:List Int) (q:Int):(∃ b∈(fW t p ks).brs,b.id=q)↔∃ b∈t.brs,b.id=q:=by
 rw[dH];split
 ·exact Iff.rfl
 ·constructor
  ·rintro ⟨b,hb,e⟩
   obtain⟨c,hc,rfl⟩:=List.mem_map.1 hb;exact⟨c,hc,by rw[← e];exact(bZ (fC p ks c)).1.symm⟩
  ·rintro ⟨b,hb,e⟩
   exact⟨_,List.mem_map.2 ⟨b,hb,rfl⟩,by rw[← e];exact(bZ (fC p ks b)).1⟩
def EdB (base E:Nat) (bv:Value) (t:Tr) (w:World):Prop:=∃ rv cs,Ed base E rv bv cs t w
theorem EdB.grew {base E:Nat} {bv:Value} {t:Tr} {w w':World} (h:EdB base E bv t w) (hg:aA w w'):EdB base E bv t w':=by
 obtain⟨rv,cs,h⟩:=h;exact⟨rv,cs,h.grew hg⟩
theorem map_set {l:List Br} {i:Nat} (hi:i<l.length) (hasc:bP l) (f:Br→Br):(l.map fun b=>if b.id=l[i].id then f b else b)=l.set i (f l[i]):=by
 apply List.ext_getElem b_54;intro j hj hj';rw[List.length_map] at hj;rw[List.getElem_map];by_cases e:j=i
 ·subst e
  rw[if_pos rfl,List.getElem_set_self]
 ·rw[List.getElem_set_ne b_53,if_neg]
  intro he;rcases Nat.lt_or_gt_of_ne e with hlt|hlt
  ·have:=List.pairwise_iff_getElem.1 hasc j i hj hi hlt
   omega
  ·have:=List.pairwise_iff_getElem.1 hasc i j hi hj hlt
   omega
structure KAt (base E:Nat) (bv:Value) (t:Tr) (p:Int) (a:Addr) (kv:Value) (w:World):Prop where
 cell:w.cell? a=some kv
 frz:w.frozen? a=false
 lo:base≤a.block
 lt:a.block<w.heap.size
 own:pR base w kv (aB t p)
 off:kv.ownBlock≠some a.block
 back:∀ w1 v' ks,w.grownBy w1 kv.ownBlock→pR base w1 v' ks→(v'.ownBlock=kv.ownBlock∨∀ b,v'.ownBlock=some b→w.heap.size≤b)→EdB base E bv (fW t p ks) (w1.setCell a v')
section
variable {base E:Nat} {rv bv:Value} {cs:List BrC} {t:Tr} {w w':World}
theorem KAt.grew {p:Int} {a:Addr} {kv:Value} (h:KAt base E bv t p a kv w) (hg:aA w w'):KAt base E bv t p a kv w' where
 cell:=(hg.cell h.lt).trans h.cell
 frz:=(hg.frozen h.lt).trans h.frz
 lo:=h.lo
 lt:=Nat.lt_of_lt_of_le h.lt hg.size
 own:=aZ h.own hg
 off:=h.off
 back:=fun w1 v' ks h1 h2 h3=>h.back w1 v' ks (rK hg h1) h2 (h3.imp_right fun k b hb=>Nat.le_trans hg.size (k b hb))
theorem Ed.kat0 (h:Ed base E rv bv cs t w):KAt base E bv t 0 ⟨E,0,none⟩ rv w where
 cell:=h.cells.1
 frz:=h.cells.2.2.1
 lo:=h.le
 lt:=(Array.getElem?_eq_some_iff.1 h.box).1
 own:=by
  unfold aB;rw[if_pos rfl];exact h.roots
 off:=cR h.roots h.box aCp
 back:=fun w1 v' ks h1 h2 h3=>by
  unfold fW;rw[if_pos rfl];exact⟨v',cs,h.setRoots h1 h2 h3⟩
theorem aNz {l:List Br} (hasc:bP l) {i:Nat} (hi:i<l.length):aE l l[i].id=some l[i]:=dN hasc (List.getElem_mem hi)
theorem Ed.katB (h:Ed base E rv bv cs t w) (hasc:bP t.brs) {i:Nat} (hi:i<t.brs.length) (h0:t.brs[i].id≠0) {B cap:Nat} (hbv:bv=.slice (some ⟨B,0,none⟩) t.brs.length cap) :
  KAt base E bv t t.brs[i].id ⟨B,i*6+5,none⟩ (cs[i]'(by have:=h.len;omega)).kv w:=by
 have hic:i<cs.length:=by have:=h.len;omega
 obtain⟨e1,e2⟩:=h.each i hic hi;subst hbv;have hlt:=(h.brs.lt B rfl)
 have hk:=jU hasc (List.getElem_mem hi) h0;have hcell:=h.brs.cellAt (i*6+5) b_53;have hfl:=fD BrC.cells 6 (fun _=>rfl) cs i 5 hic b_53;refine⟨?_,h.brs.frozenAt _,hlt.1,hlt.2,?_,fun e=>?_,fun w1 v' ks h1 h2 h3=>?_⟩
 ·rw[hcell,hfl]
  rfl
 ·rw[hk]
  exact e2
 ·exact lY e2 h.brs rI B e rfl
 ·obtain⟨B',cap',hb,he⟩:=h.poke (j:=5) (c':={ cs[i] with kv:=v' }) (b':={ t.brs[i] with kids:=ks }) (u:=v') hic hi b_53 h1 (.inr rfl) rfl (by
   rw[e1]
   rfl) h2 h3
  injection hb with hb _ _;injection hb with hb;injection hb with hb _ _;subst hb;unfold fW;rw[if_neg h0,map_set hi hasc];exact⟨rv,_,he⟩
theorem Ed.field (h:Ed base E rv bv cs t w) (hasc:bP t.brs) {i j:Nat} (hi:i<t.brs.length) (hj:j<5) {B cap:Nat} (hbv:bv=.slice (some ⟨B,0,none⟩) t.brs.length cap) (f:Br→Br) (u:Value)
  (hf:∀ kv,((f t.brs[i]).c kv).cells=(t.brs[i].c kv).cells.set j u) (hk:(f t.brs[i]).kids=t.brs[i].kids):EdB base E bv (jX t t.brs[i].id f) (w.setCell ⟨B,i*6+j,none⟩ u):=by
 have hic:i<cs.length:=by have:=h.len;omega
 obtain⟨e1,e2⟩:=h.each i hic hi
 obtain⟨B',cap',hb,he⟩:=h.poke (j:=j) (w1:=w) (row:=none) (c':=(f t.brs[i]).c cs[i].kv) (b':=f t.brs[i]) (u:=u) hic hi b_53 (World.grownBy.refl _ _) (.inl rfl) (by
  rw[hf]
  rw[← e1]) rfl (by
  show pR base w cs[i].kv _;rw[hk]
  exact e2) (.inl rfl)
 rw[hbv] at hb;injection hb with hb _ _;injection hb with hb;injection hb with hb _ _;subst hb;unfold jX;rw[map_set hi hasc];exact⟨rv,_,he⟩
theorem Ed.at_ (h:Ed base E rv bv cs t w) {i:Nat} (hi:i<t.brs.length) {B cap:Nat} (hbv:bv=.slice (some ⟨B,0,none⟩) t.brs.length cap) :
  w.cell? ⟨B,i*6,none⟩=some (.int .i64 t.brs[i].id)∧w.cell? ⟨B,i*6+1,none⟩=some (.int .i64 t.brs[i].parent)∧w.cell? ⟨B,i*6+2,none⟩=some (.int .i64 t.brs[i].level)∧w.cell? ⟨B,i*6+3,none⟩=some (.string t.brs[i].title)∧w.cell? ⟨B,i*6+4,none⟩=some (.string t.brs[i].mark) ∧
   (∃ kv,w.cell? ⟨B,i*6+5,none⟩=some kv∧SlI w kv t.brs[i].kids)∧(∀ j,w.frozen? ⟨B,j,none⟩=false)∧base≤B∧B<w.heap.size:=by
 have hic:i<cs.length:=by have:=h.len;omega
 obtain⟨e1,e2⟩:=h.each i hic hi;subst hbv;have hlt:=(h.brs.lt B rfl)
 have key:∀ j,j<6→w.cell? ⟨B,i*6+j,none⟩=cs[i].cells[j]?:=fun j hj=>by
  rw[h.brs.cellAt (i*6+j) b_53,fD BrC.cells 6 (fun _=>rfl) cs i j hic hj]
 rw[e1] at key;refine⟨key 0 b_53,key 1 b_53,key 2 b_53,key 3 b_53,key 4 b_53,⟨cs[i].kv,?_,Rd.of_own e2⟩,fun j=>h.brs.frozenAt _,hlt.1,hlt.2⟩;have:=key 5 b_53;exact this
end
theorem aNg (y:BrC) (id:Int) (w:World):Calls Tryz.prog 182 #[y.agg,.int .i64 id] w fun e w'=>e=.returned (.int .i64 (Lib.compareInt y.id id))∧aA w w':=by
 have h1:=Tryz.cmp_Compare_int y.id id;unfold BrC.agg;generalize Lib.compareInt y.id id=r at h1;have H1:=uZ h1;clear h1;go_enter Tryz.func182,Tryz.ntmps182;exact c_101
def zFw:=Unit
theorem zFw.g {p:Prop} (_:zFw) (h:p:=by
 have kC:=fun W=>aNg ⟨yi,yp,yl,yt,ym,.slice Az yk.length cz⟩ id W
 exact f_3
):p:=h
theorem aUp (l:List Br) (id:Int) (v:Value) (w:World) (hv:bQ w v l) (hlen:l.length≤1000000)
  (hm:∀ i j (hi:i<l.length) (hj:j<l.length),i≤j→cV id l[j]<0→cV id l[i]<0) :
  Calls Tryz.prog 181 #[v,.int .i64 id,.func (.func 182) #[] #[]] w fun e w' =>
   e=.returned (.tuple #[.int .i64 (eH (fun y=>decide (cV id y<0)) l),.bool (rJ (fun y=>decide (cV id y=0)) l (eH (fun y=>decide (cV id y<0)) l))])∧aA w w':=by
 obtain⟨A,c,rfl,hlc,hcap,hr⟩:=hv.open_;have HR:=uZ hr;have HM:=uZ hm;have HP:=uZ (lW (fun y=>decide (cV id y<0)) l);clear hv hr hm hcap hlc;generalize eH (fun y=>decide (cV id y<0)) l=P0 at HP ⊢;generalize hh0:rJ (fun y=>decide (cV id y=0)) l P0=hb0;have HH0:=uZ hh0;clear hh0;go_enter Tryz.func181,Tryz.ntmps181;go_wp2;go_loopg [9,10] l.length (fun gg s9 s10 wr=>∃ i j:Nat,i≤j∧j≤l.length∧j-i≤gg∧s9=.int .i64 i∧s10=.int .i64 j∧Aside (aA w wr)∧Aside (∀ t (h:t<l.length),t<i→cV id l[t]<0)∧Aside (∀ t (h:t<l.length),j≤t→¬ cV id l[t]<0))
 case atStart=>exact⟨0,l.length,by omega,by omega,by omega,rfl,rfl,(show Aside _ from uX _),(show Aside _ from fun t h ht=>by omega),(show Aside _ from fun t h ht=>by omega)⟩
 case round =>
  obtain⟨i,j,hij,hj,hgk,rfl,rfl,BW,M1,M2⟩:=hrel;by_cases hlt:i<j
  ·have hltz:(i:Int)<(j:Int):=by omega
   have nX:zFw:=()
   exact s_27
  ·have hltz:¬ (i:Int)<(j:Int):=by omega
   obtain rfl:i=j:=by omega
   have hP:=h_123;subst hP;by_cases hil:P0<l.length
   ·have hilz:(P0:Int)<(l.length:Int):=by omega
    have h0z:(0:Int)≤(P0:Int):=by omega
    obtain⟨b,off,rfl,hb,hcell⟩:=HR.out b_53;obtain⟨kv,hkv,hcl⟩:=hcell P0 hil;obtain⟨c0,c1,c2,c3,c4,c5⟩:=hcl wr BW.out;obtain⟨Az,cz,rfl,-,-,-⟩:=hkv.open_;have hh:=h_120;unfold cV at hh;clear hcell hcl hkv;generalize l[P0]=y at c0 c1 c2 c3 c4 c5 hh;obtain⟨yi,yp,yl,yt,ym,yk⟩:=y;dsimp only at c0 c1 c2 c3 c4 c5 hh;have kC:=fun W=>aNg ⟨yi,yp,yl,yt,ym,.slice Az yk.length cz⟩ id W
    dsimp only [BrC.agg] at kC;generalize Lib.compareInt yi id=r at kC hh;have KC:=uZ kC;have HHE:=uZ hh;clear kC hh;go_wp2_with fail;refine(KC.out _).mono ?_;rintro e w1 ⟨rfl,g1⟩;have HG1:=uZ g1;clear g1;dsimp only;go_wp2;go_ret2;exact⟨uM HHE.out,BW.out.trans HG1.out⟩
   ·have hilz:decide ((P0:Int)<(l.length:Int))=false:=by simp;omega
    have hh:false=hb0:=by rw[← HH0.out];simp[rJ,hil]
    have HHE:=uZ hh;clear hh;go_wp2;go_ret2;exact⟨uM HHE.out,BW.out⟩
theorem aNr {l:List Br} (h:bP l) (id:Int):∀ i j (hi:i<l.length) (hj:j<l.length),i≤j→cV id l[j]<0→cV id l[i]<0:=by
 intro i j hi hj hij hc;rw[jB] at hc ⊢;by_cases e:i=j
 ·subst e;exact hc
 ·have:=List.pairwise_iff_getElem.1 h i j hi hj b_53
  omega
def aHg (l:List Br) (id:Int):Nat:=eH (fun y=>decide (cV id y<0)) l
theorem aLc {l:List Br} (h:bP l) {i:Nat} (hi:i<l.length):aHg l l[i].id=i:=by
 refine lW _ l i b_53 (fun t ht htk=>?_) (fun t ht htk=>?_)
 ·have:=List.pairwise_iff_getElem.1 h t i ht hi htk
  simp only [decide_eq_true_eq,jB];omega
 ·simp only [decide_eq_false_iff_not,jB]
  by_cases e:i=t
  ·subst e;omega
  ·have:=List.pairwise_iff_getElem.1 h i t hi ht b_53
   omega
theorem aVz {l:List Br} (h:bP l) (id:Int):rJ (fun y=>decide (cV id y=0)) l (aHg l id)=(aE l id).isSome:=by
 cases ho:aE l id with
 | none=>exact aOe id ho _
 | some b =>
  obtain⟨k,hk,_,e⟩:=gK ho
  have hid:l[k].id=id:=by
   rw[e];exact(bE ho).2
  have h1:=aLc h hk;rw[hid] at h1;rw[h1];simp only [rJ,List.getElem?_eq_getElem hk,Option.isSome_some,decide_eq_true_eq,yC];exact hid
section
variable {base E:Nat} {bv:Value} {t:Tr} {w:World}
theorem EdB.reads (h:EdB base E bv t w):∃ rv,SlI w rv t.roots∧bQ w bv t.brs∧w.cell? ⟨E,0,none⟩=some rv∧w.cell? ⟨E,1,none⟩=some bv∧base≤E∧E<w.heap.size:=by
 obtain⟨rv,cs,h⟩:=h;exact⟨rv,h.tree.1,h.tree.2,h.cells.1,h.cells.2.1,h.le,(Array.getElem?_eq_some_iff.1 h.box).1⟩
theorem aFy (h:EdB base E bv t w) (hasc:bP t.brs) (hlen:t.brs.length≤1000000) (id:Int) :
  Calls Tryz.prog 128 #[.pointer (some ⟨E,0,none⟩),.int .i64 id] w fun e w'=>e=.returned (.tuple #[.int .i64 (aHg t.brs id),.bool (aE t.brs id).isSome])∧aA w w':=by
 obtain⟨rv,-,hb,-,c1,-,-⟩:=h.reads;have k:=aUp t.brs id bv w hb hlen (aNr hasc id);have hh:=aVz hasc id;unfold aHg at hh;rw[hh] at k;have K:=uZ k;unfold aHg;generalize (aE t.brs id).isSome=q at K ⊢;generalize eH (fun y=>decide (cV id y<0)) t.brs=n at K ⊢;obtain⟨A,c,rfl,-,-,-⟩:=hb.open_;clear k hh h hb;go_enter Tryz.func128,Tryz.ntmps128;go_wp2_with fail;refine K.out.mono ?_;rintro e w1 ⟨rfl,g1⟩;dsimp only;go_wp2;go_ret2;exact⟨rfl,g1⟩
theorem nE (h:EdB base E bv t w) (hasc:bP t.brs) (hlen:t.brs.length≤1000000) {id:Int} (hno:aE t.brs id=none) :
  Calls Tryz.prog 129 #[.pointer (some ⟨E,0,none⟩),.int .i64 id] w fun e w'=>e=.returned (.pointer none)∧aA w w':=by
 have k:=aFy h hasc hlen id;rw[hno] at k;dsimp only [Option.isSome_none] at k;have K:=uZ k;clear k h hno;go_enter Tryz.func129,Tryz.ntmps129;go_wp2_with fail;refine K.out.mono ?_;rintro e w1 ⟨rfl,g1⟩;dsimp only;go_wp2;go_ret;exact⟨rfl,g1⟩
theorem iO (h:EdB base E bv t w) (hasc:bP t.brs) (hlen:t.brs.length≤1000000) {i:Nat} (hi:i<t.brs.length) {B cap:Nat} (hbv:bv=.slice (some ⟨B,0,none⟩) t.brs.length cap) :
  Calls Tryz.prog 129 #[.pointer (some ⟨E,0,none⟩),.int .i64 t.brs[i].id] w fun e w'=>e=.returned (.pointer (some ⟨B,i*6,none⟩))∧aA w w':=by
 have k:=aFy h hasc hlen t.brs[i].id;rw[aNz hasc hi,aLc hasc hi] at k;dsimp only [Option.isSome_some] at k;obtain⟨rv,-,hb,-,c1,-,-⟩:=h.reads;obtain⟨A,c,he,hlc,hcm,-⟩:=hb.open_;rw[hbv] at he;injection he with hA _ hc;subst hA hc;unfold maxLen at hcm;rw[hbv] at c1;have K:=uZ k;have HC:=uZ c1;have hiz:(i:Int)<(t.brs.length:Int):=by omega
 have h0z:=h_215;generalize t.brs[i].id=id at K ⊢;clear k h hb c1 hbv;go_enter Tryz.func129,Tryz.ntmps129;go_wp2_with fail;refine K.out.mono ?_;rintro e w1 ⟨rfl,g1⟩;have c1:=uQ g1 HC.out;dsimp only;go_wp2;go_ret;exact⟨rfl,g1⟩
def aXa (base E:Nat) (bv:Value) (t:Tr) (p:Int) (w:World) (e:Ending) (w':World):Prop:=∃ ab ao kv,e=.returned (.pointer (some ⟨ab,ao,none⟩))∧KAt base E bv t p ⟨ab,ao,none⟩ kv w'∧aA w w'
theorem bAk (h:EdB base E bv t w) (hasc:bP t.brs) (hlen:t.brs.length≤1000000) {p:Int} (hp:p=0∨∃ b∈t.brs,b.id=p) :
  Calls Tryz.prog 131 #[.pointer (some ⟨E,0,none⟩),.int .i64 p] w (aXa base E bv t p w):=by
 by_cases hz:p=0
 ·subst hz
  obtain⟨rv,cs,hE⟩:=h;have HK:=uZ hE.kat0;clear hE;go_enter Tryz.func131,Tryz.ntmps131;go_wp2;go_ret;exact⟨E,0,rv,rfl,HK.out,uX w⟩
 ·obtain⟨b,hb,e⟩:=hp.resolve_left hz
  obtain⟨i,hi,rfl⟩:=List.mem_iff_getElem.1 hb;subst e;obtain⟨rv,cs,hE⟩:=h;obtain⟨B,cap,hbv,-,-,-⟩:=fH hE.brs b_53;obtain⟨kv,hkv⟩:∃ kv,KAt base E bv t t.brs[i].id ⟨B,i*6+5,none⟩ kv w:=⟨_,hE.katB hasc hi hz hbv⟩
  have HK:=uZ hkv;have K:=uZ (iO ⟨rv,cs,hE⟩ hasc hlen hi hbv);have hz':(t.brs[i].id == 0)=false:=by simpa using hz
  generalize t.brs[i].id=p at K HK hz' ⊢;clear hE hz hb hp hkv;go_enter Tryz.func131,Tryz.ntmps131;go_wp2_with fail;refine K.out.mono ?_;rintro e w1 ⟨rfl,g1⟩;dsimp only;go_wp2;go_ret;exact⟨B,i*6+5,kv,rfl,HK.out.grew g1,g1⟩
end
theorem h_61 {p:Prop} (h:p:=by
 exact(show l.filter (fun x=>!p x)=l from List.filter_eq_self.2 (fun x hx=>by
  rw[List.any_eq_false] at hany
  simpa using hany x hx))
):p:=h
theorem h_76 {p:Prop} (h:p:=by
 exact(show lL p l=-1 from eA p l (fun i hi=>by
  rw[List.any_eq_false] at hany
  simpa using hany l[i] (List.getElem_mem hi)))
):p:=h
theorem aMu (w:World) (p:Addr) (u:Value):w.grownBy (w.setCell p u) (some p.block):=⟨rfl,rfl,rfl,by simp[World.setCell],fun k _ hne=>Below.heap_setCell _ _ _ _ (fun e=>hne (by rw[e]))⟩
theorem tI (l:List Int) (p:Int→Bool) (gf:Nat) (lb:Array Value) (eg:∀ args w,(callFunc gf args).run Tryz.prog w=.ok (.enter gf args) w) (base:Nat) (v:Value) (w:World) (hbase:base≤w.heap.size)
  (hown:w.ownsRow base 3 1 v l.length (l.flatMap eE))
  (hp:∀ W x,w.grownBy W v.ownBlock→x∈l→Calls Tryz.prog gf (#[(.int .i64 x)]++lb) W fun e w'=>e=.returned (.bool (p x))∧aA W w') :
  Calls Tryz.prog 190 #[v,.func (.func gf) #[] lb] w fun e w'=>∃ v',e=.returned v'∧w'.ownsRow base 3 1 v' (l.filter fun x=>!p x).length ((l.filter fun x=>!p x).flatMap eE)∧v'.ownBlock=v.ownBlock∧Below base w w'∧w.grownBy w' v.ownBlock:=by
 have hix:=aHv l p gf lb eg v w (Rd.of_own hown) (fun W x hW hx=>hp W x (dA hW _) hx);by_cases hany:l.any p=true
 case neg =>
  simp only [Bool.not_eq_true] at hany;have hid:=h_61;have hm:=h_76;rw[hid];rw[hm] at hix;have HX:=uZ hix;have HO:=uZ hown;generalize l.flatMap eE=cs at HO ⊢;clear hix hown hp hid hm hany;go_enter Tryz.func190,Tryz.ntmps190;go_wp2_with (first|(go_at_call 226;refine HX.out.mono ?_;rintro e w1 ⟨rfl,hg⟩))
  go_ret;exact⟨v,rfl,aZ HO.out hg,rfl,hg.below.mono hbase,dA hg _⟩
 case pos =>
  obtain⟨m,hm,hpm,hbef⟩:=mD p l hany;have he:lL p l=(m:Int):=eW p l m hm hpm hbef;rw[he] at hix;obtain⟨g,cap,hv,hbg,hglt,hcap⟩:=fH hown b_53;subst hv;have hcm:cap≤maxLen:=sV hown;unfold maxLen at hcm;have DI0:dE 1 eE l (fun x=>!p x) (l.flatMap eE) m (m+1):=dE.start (f:=eE) (fun _=>rfl) m hm (by simp[hpm]) (fun t ht h=>by simp[hbef t ht h]);have HX:=uZ hix;have HO:=uZ hown;have HP:=uZ hp;have HD:=uZ DI0;have hneg:((m:Int) == -1)=false:=beq_eq_false_iff_ne.2 b_53;clear hix hown hp DI0 he hpm hbef hany;go_enter Tryz.func190,Tryz.ntmps190;go_wp2_with (first|(go_at_call 226;refine HX.out.mono ?_;rintro e w1 ⟨rfl,hg⟩))
  go_loopg [5,6] l.length (fun gg s5 s6 wr=>∃ ii jj:Nat,ii<jj∧jj≤l.length∧l.length-jj≤gg∧s5=.int .i64 ii∧s6=.int .i64 jj∧Aside (Below base w wr∧w.grownBy wr (some g))∧Aside (∃ ds,wr.ownsRow base 3 1 (.slice (some ⟨g,0,none⟩) l.length cap) l.length ds∧dE 1 eE l (fun x=>!p x) ds ii jj))
  case atStart=>exact⟨m,m+1,by omega,by omega,by omega,rfl,by go_num,(show Aside _ from⟨hg.below.mono hbase,dA hg _⟩),_,aZ HO.out hg,HD.out⟩
  case round =>
   obtain⟨ii,jj,hij,hjl,hgk,rfl,rfl,BW,hds⟩:=hrel;obtain⟨ds,ho,DI0⟩:=hds.out;have DI:=uZ DI0;clear hds DI0;by_cases hlt:jj<l.length
   ·have hltz:(jj:Int)<(l.length:Int):=by omega
    have c0:wr.cell? ⟨g,jj,none⟩=some (.int .i64 l[jj]):=by
     have h1:=ho.cellAt (jj*1+0) b_53;have h2:=dE.at_ (f:=eE) DI.out (fun _=>rfl) hlt 0 b_53;rw[h2] at h1;simpa [eE] using h1
    have hcall:=HP.out wr l[jj] BW.out.2 (List.getElem_mem hlt);have HOr:=uZ ho;have Hlt:=uZ hlt;generalize hy:l[jj]=y at c0 hcall;have B:Aside (l[jj]=y):=hy;clear hy ho
    cases hq:p y with
    | true =>
     have Hq:Aside (p y=true):=hq;rw[hq] at hcall;go_wp2_with (go_at_fn gf;refine hcall.mono ?_;rintro e w' ⟨rfl,hb'⟩)
     go_roundg (l.length-(jj+1))
     case measure=>omega
     case rel=>exact⟨ii,jj+1,by omega,by omega,by omega,rfl,by go_num,(show Aside _ from⟨BW.out.1.trans (hb'.below.mono (Nat.le_trans hbase BW.out.1.size)),BW.out.2.trans (dA hb' _)⟩),(show Aside _ from⟨ds,aZ HOr.out hb',DI.out.skip Hlt.out (by have h:l[jj]'Hlt.out=y:=B.out;rw[h,Hq.out];rfl)⟩)⟩
    | false =>
     have Hq:Aside (p y=false):=hq;rw[hq] at hcall;go_wp2_with fail;refine hcall.mono ?_;rintro e w' ⟨rfl,hb'⟩;have ho':=aZ HOr.out hb';obtain⟨u0,_,hu0⟩:=eV ho' ii b_53;have hf0:=ho'.frozenAt ii;have HO':=uZ ho';clear ho';go_wp2;obtain⟨ds1,hD1,hG1,hL1,hA1,hB1⟩:=jA (eE y) (ii*1) w' ds HO'.out;go_roundg (l.length-(jj+1))
     case measure=>omega
     case rel =>
      have hyj:l[jj]'Hlt.out=y:=B.out;have hbw:Below base w w':=BW.out.1.trans (hb'.below.mono (Nat.le_trans hbase BW.out.1.size));refine⟨ii+1,jj+1,by omega,by omega,by omega,by go_num,by go_num,(show Aside _ from ?_),(show Aside _ from⟨ds1,?_,?_⟩)⟩
      ·exact⟨hbw.setCell (p:=⟨g,ii,none⟩) hbg _,(BW.out.2.trans (dA hb' _)).trans (aMu _ _ _)⟩
      ·simpa [eE,World.setCells] using hD1
      ·exact dE.keep (f:=eE) DI.out (fun _=>rfl) Hlt.out (by rw[hyj,Hq.out];rfl) hL1 (by rw[hyj];exact hA1) (by rw[hyj];exact hB1)
   ·have hje:jj=l.length:=by omega
    subst hje;have hii:¬ cap=ii:=by omega
    have hgt:(ii:Int)≤(l.length:Int):=by omega
    obtain⟨w2,ds2,hrun,ho2,hg2,ha2⟩:=iI (P:=Tryz.prog) wr 38 3 0 (.int .i64 0) 1 Tryz.underlying38 Tryz.zeroValue3 rfl b_53 (by simp[Value.cells,Value.oneCell']) ho ii (cap-ii) hij;have hrun':∀ ty,(Builtin.clear_ #[38] ty #[.slice (some ⟨g,ii,none⟩) (l.length-ii) (cap-ii)]).run Tryz.prog wr=.ok (.tuple #[]) w2:=fun _=>by have h:=hrun;rw[Nat.mul_one] at h;exact h
    have Ho2:=uZ ho2;have Ha2:=uZ ha2;clear ho2 ha2 hrun ho;go_wp2;go_ret;obtain⟨e1,e2⟩:=dE.done (f:=eE) DI.out (fun _=>rfl) Ha2.out;have hc2:=wU Ho2.out ii b_53;rw[e1] at hc2;refine⟨_,rfl,?_,rfl,Below.grown BW.out.1 hg2 (Nat.le_trans hbase BW.out.1.size) (fun k hk=>by cases hk;exact hbg),BW.out.2.trans (hg2)⟩;rw[← e2];exact hc2
theorem h_50 {p:Prop} (h:p:=by
 exact(show o.parent=0∨∃ b∈t.brs,b.id=o.parent from by
  rcases hc.stands with ⟨h1,_⟩|⟨_,q,hq,h2,_⟩
  ·exact .inl h1
  ·exact .inr ⟨q,hq,h2⟩)
):p:=h
theorem dU (b x:Br):∀ l:List Br,x∈lI b l↔x=b∨x∈l
 | []=>by simp[lI]
 | y::r=>by
  unfold lI;split
  ·rw[List.mem_cons,dU b x r,List.mem_cons]
   constructor
   ·rintro (h|h|h)
    ·exact .inr (.inl h)
    ·exact .inl h
    ·exact .inr (.inr h)
   ·rintro (h|h|h)
    ·exact .inr (.inl h)
    ·exact .inl h
    ·exact .inr (.inr h)
  ·simp
theorem xJ (b:Br):∀ l:List Br,(lI b l).length=l.length+1
 | []=>rfl
 | y::r=>by
  unfold lI;split
  ·simp only [List.length_cons];rw[xJ b r]
  ·rfl
theorem sA (b:Br):∀ l:List Br,bP l→(∀ c∈l,c.id≠b.id)→bP (lI b l)
 | [],_,_=>by simp[lI,bP]
 | y::r,h,hn=>by
  have h':=List.pairwise_cons.1 h;unfold lI;split
  ·rename_i hy
   refine List.pairwise_cons.2 ⟨fun z hz=>?_,sA b r h'.2 (fun c hc=>hn c (List.mem_cons_of_mem _ hc))⟩;rcases (dU b z r).1 hz with rfl|hz
   ·exact hy
   ·exact h'.1 z hz
  ·rename_i hy
   have hyb:=hn y (List.mem_cons_self ..);refine List.pairwise_cons.2 ⟨fun z hz=>?_,h⟩;rcases List.mem_cons.1 hz with rfl|hz
   ·omega
   ·have:=h'.1 z hz;omega
theorem rU {n before:Int}:∀ {ks:List Int},(before=0→(0:Int)∉ks)→(before≠0→before∈ks)→∀ x,x∈iL n before ks↔x=n∨x∈ks
 | [],_,h2,x=>by
  unfold iL;by_cases hb:before=0
  ·simp[hb]
  ·have:=h2 hb;cases this
 | y::r,h1,h2,x=>by
  unfold iL;split
  ·simp
  ·rename_i hy
   have ih:=rU (n:=n) (before:=before) (ks:=r) (fun h hm=>h1 h (List.mem_cons_of_mem _ hm)) (fun h=>by
    rcases List.mem_cons.1 (h2 h) with e|h
    ·exact absurd e.symm hy
    ·exact h) x
   rw[List.mem_cons,ih,List.mem_cons];constructor
   ·rintro (h|h|h)
    ·exact .inr (.inl h)
    ·exact .inl h
    ·exact .inr (.inr h)
   ·rintro (h|h|h)
    ·exact .inr (.inl h)
    ·exact .inl h
    ·exact .inr (.inr h)
theorem qD {n before:Int}:∀ {ks:List Int},(before=0→(0:Int)∉ks)→(before≠0→before∈ks)→ks.Nodup→n∉ks→(iL n before ks).Nodup
 | [],_,_,_,_=>by unfold iL;split<;>simp
 | y::r,h1,h2,h3,h4=>by
  have h3':=List.nodup_cons.1 h3;rw[List.mem_cons,not_or] at h4;unfold iL;split
  ·exact List.nodup_cons.2 ⟨by rw[List.mem_cons,not_or];exact h4,h3⟩
  ·rename_i hy
   have g1:before=0→(0:Int)∉r:=fun h hm=>h1 h (List.mem_cons_of_mem _ hm)
   have g2:before≠0→before∈r:=fun h=>by
    rcases List.mem_cons.1 (h2 h) with e|h
    ·exact absurd e.symm hy
    ·exact h
   refine List.nodup_cons.2 ⟨fun hm=>?_,qD g1 g2 h3'.2 h4.2⟩;rcases (rU g1 g2 y).1 hm with e|hm
   ·exact h4.1 e.symm
   ·exact h3'.1 hm
def jC (l:List Br) (parent level:Int):Prop:=(parent=0∧level=1)∨(parent≠0∧∃ p∈l,p.id=parent∧fX p.level level=true)
theorem aNo {l:List Br} (h:aEh l) (b:Br) (hl:l.length<256) (hn:∀ c∈l,c.id≠b.id) (hu:nU b) (hm:∀ c∈l,b.mark.toList.isEmpty=false→c.mark.toList≠b.mark.toList) (hs:jC l b.parent b.level):aEh (lI b l):=by
 have hasc:=sA b l h.asc hn;refine⟨by rw[xJ];omega,hasc,?_,?_,?_,?_⟩
 ·intro c hc
  rcases (dU b c l).1 hc with rfl|hc
  ·exact hu
  ·exact h.units c hc
 ·intro c hc d hd hne he
  rcases (dU b c l).1 hc with hcb|hc1<;>rcases (dU _ d l).1 hd with hdb|hd1
  ·rw[hcb,hdb]
  ·exact absurd (by rw[← hcb];exact he.symm) (hm d hd1 (by rw[← hcb];exact hne))
  ·exact absurd (by rw[← hdb];exact he) (hm c hc1 (by rw[← hdb,← he];exact hne))
  ·exact h.marks c hc1 d hd1 hne he
 ·intro c hc
  rw[cQ hasc]
  have hst:∀ p lv,jC l p lv→(p=0∧lv=1)∨(p≠0∧∃ q∈lI b l,q.id=p∧fX q.level lv=true):=by
   rintro p lv (h1|⟨h1,q,hq,h2,h3⟩)
   ·exact .inl h1
   ·exact .inr ⟨h1,q,(dU b q l).2 (.inr hq),h2,h3⟩
  rcases (dU b c l).1 hc with rfl|hc
  ·exact hst _ _ hs
  ·exact hst _ _ ((cQ h.asc c).1 (h.placed c hc))
 ·obtain⟨r,hr⟩:=h.rank
  have hup:∀ c:Br,jC l c.parent c.level→c.parent≠0→c.parent≠b.id:=by
   rintro c (⟨h1,_⟩|⟨_,q,hq,h2,_⟩) h0 e
   ·exact h0 h1
   ·exact hn q hq (by rw[h2];exact e)
  refine⟨fun x=>if x=b.id then r b.parent+1 else r x,fun c hc hp=>?_⟩;rcases (dU b c l).1 hc with rfl|hc
  ·simp only [if_true]
   rw[if_neg (hup c hs hp)];omega
  ·have h1:=hup c ((cQ h.asc c).1 (h.placed c hc)) hp
   simp only;rw[if_neg h1,if_neg (hn c hc)];exact hr c hc hp
theorem tK {t:Tr} (h:bP t.brs) (b:Br) (hn:∀ c∈t.brs,c.id≠b.id) (hb0:b.id≠0) (q:Int):aB ⟨t.roots,lI b t.brs⟩ q=if q=b.id then b.kids else aB t q:=by
 have hasc:=sA b t.brs h hn;unfold aB;by_cases hq:q=0
 ·subst hq
  rw[if_pos rfl,if_pos rfl,if_neg (fun e=>hb0 e.symm)]
 ·simp only [if_neg hq]
  by_cases hqb:q=b.id
  ·subst hqb
   rw[if_pos rfl,dN hasc ((dU b b t.brs).2 (.inl rfl))]
  ·rw[if_neg hqb]
   cases hf:aE t.brs q with
   | some c =>
    have hc:=bE hf;rw[(aFt hasc q c).2 ⟨(dU b c t.brs).2 (.inr hc.1),hc.2⟩]
   | none =>
    rw[(fE q).2 (fun c hc=>by
     rcases (dU b c t.brs).1 hc with rfl|hc
     ·exact fun e=>hqb e.symm
     ·exact(fE q).1 hf c hc)]
theorem aMf {l:List Br} (b:Br) (ks:List Int) (p:Int) (hn:∀ c∈l,c.id≠b.id):fK (lI b l) ks p↔(if b.parent=p then ks.Nodup∧∀ x,x∈ks↔x=b.id∨∃ c∈l,c.parent=p∧c.id=x else fK l ks p):=by
 unfold fK
 have hx:∀ x,(∃ c∈lI b l,c.parent=p∧c.id=x)↔(b.parent=p∧x=b.id)∨∃ c∈l,c.parent=p∧c.id=x:=by
  intro x;constructor
  ·rintro ⟨c,hc,h1,h2⟩
   rcases (dU b c l).1 hc with rfl|hc
   ·exact .inl ⟨h1,h2.symm⟩
   ·exact .inr ⟨c,hc,h1,h2⟩
  ·rintro (⟨h1,rfl⟩|⟨c,hc,h1,h2⟩)
   ·exact⟨b,(dU b b l).2 (.inl rfl),h1,rfl⟩
   ·exact⟨c,(dU b c l).2 (.inr hc),h1,h2⟩
 simp only [hx];by_cases hp:b.parent=p<;>simp[hp]
structure iC (t:Tr) (o:Opn):Prop where
 new:∀ c∈t.brs,c.id≠o.unit
 unit:nU ⟨o.unit,o.parent,o.level,o.title,o.mark,[]⟩
 stands:jC t.brs o.parent o.level
 before:o.before≠0→o.before∈aB t o.parent
 mark:∀ c∈t.brs,o.mark.toList.isEmpty=false→c.mark.toList≠o.mark.toList
 room:t.brs.length<256
theorem rB {t:Tr} {o:Opn} (h:bG t) (hc:iC t o):bG (fF t o):=by
 obtain⟨hC,hK⟩:=(bX t).1 h;have hu0:o.unit≠0:=cC hc.unit;have hp:=h_50;have hKp:=hK o.parent hp
 have h00:(0:Int)∉aB t o.parent:=fun hm=>by
  obtain⟨b,hb,_,e⟩:=(hKp.2 0).1 hm;exact cC (hC.units b hb) e
 have hun:o.unit∉aB t o.parent:=fun hm=>by
  obtain⟨b,hb,_,e⟩:=(hKp.2 o.unit).1 hm;exact hc.new b hb e
 have hpu:o.parent≠o.unit:=fun e=>by
  rcases hp with h1|⟨b,hb,e2⟩
  ·exact hu0 (by rw[← e];exact h1)
  ·exact hc.new b hb (by rw[e2];exact e)
 have hT:=oV o.parent (iL o.unit o.before (aB t o.parent)) hC;have hids:=oU t o.parent (iL o.unit o.before (aB t o.parent));have hch:=gH (t:=t) o.parent (iL o.unit o.before (aB t o.parent));have hkd:=oT t o.parent (iL o.unit o.before (aB t o.parent))
 have hmem:∀ c∈(fW t o.parent (iL o.unit o.before (aB t o.parent))).brs,∃ d∈t.brs,mK c=mK d:=by
  intro c hcm;rw[dH] at hcm;split at hcm
  ·exact⟨c,hcm,rfl⟩
  ·obtain⟨d,hd,rfl⟩:=List.mem_map.1 hcm
   exact⟨d,hd,fC _ _ d⟩
 have hmem2:∀ d∈t.brs,∃ c∈(fW t o.parent (iL o.unit o.before (aB t o.parent))).brs,mK c=mK d:=by
  intro d hd;rw[dH];split
  ·exact⟨d,hd,rfl⟩
  ·exact⟨_,List.mem_map.2 ⟨d,hd,rfl⟩,fC _ _ d⟩
 have hlen:(fW t o.parent (iL o.unit o.before (aB t o.parent))).brs.length=t.brs.length:=by
  rw[dH];split
  ·rfl
  ·rw[List.length_map]
 unfold fF;generalize fW t o.parent (iL o.unit o.before (aB t o.parent))=t1 at hT hids hch hkd hmem hmem2 hlen ⊢
 have hn1:∀ c∈t1.brs,c.id≠o.unit:=fun c hcm e=>by
  obtain⟨d,hd,he⟩:=hmem c hcm;exact hc.new d hd (by rw[← (bZ he).1];exact e)
 rw[bX];refine⟨aNo hT _ (by rw[hlen];exact hc.room) hn1 hc.unit (fun c hcm hne=>?_) ?_,fun q hq=>?_⟩
 ·obtain⟨d,hd,he⟩:=hmem c hcm
  rw[(bZ he).2.2.2.2];exact hc.mark d hd hne
 ·rcases hc.stands with h1|⟨h1,p,hpm,h2,h3⟩
  ·exact .inl h1
  ·obtain⟨c,hcm,he⟩:=hmem2 p hpm
   exact .inr ⟨h1,c,hcm,by rw[(bZ he).1];exact h2,by rw[(bZ he).2.2.1];exact h3⟩
 ·rw[tK hT.asc _ hn1 hu0,aMf _ _ _ hn1]
  by_cases hqu:q=o.unit
  ·rw[if_pos hqu,if_neg (by rw[hqu];exact hpu)]
   refine⟨by simp,fun x=>⟨(fun hx=>by cases hx),?_⟩⟩;rintro ⟨c,hcm,h1,_⟩;exfalso;have hpl:=(cQ hT.asc c).1 (hT.placed c hcm);rcases hpl with ⟨h2,_⟩|⟨_,p,hpm,h2,_⟩
   ·exact hu0 (by rw[← hqu,← h1];exact h2)
   ·exact hn1 p hpm (by rw[h2,h1];exact hqu)
  ·rw[if_neg hqu,hch q hp]
   by_cases hqp:o.parent=q
   ·subst hqp
    rw[if_pos rfl,if_pos rfl];refine⟨qD (fun _=>h00) hc.before hKp.1 hun,fun x=>?_⟩;rw[rU (fun _=>h00) hc.before,← ((hkd (aB t o.parent) o.parent).2 hKp).2 x]
   ·rw[if_neg hqp,if_neg (fun e=>hqp e.symm)]
    refine(hkd _ _).2 (hK q ?_);rcases hq with h1|⟨b,hb,e⟩
    ·exact .inl h1
    ·rcases (dU _ b t1.brs).1 hb with rfl|hb
     ·exact absurd e.symm hqu
     ·exact .inr ((hids q).1 ⟨b,hb,e⟩)
theorem c_37 {p:Prop} (h:p:=by
 dsimp only;go_wp2_with fail;refine HIX.out.mono ?_;rintro e w2 ⟨rfl,rfl⟩;dsimp only;go_wp2_with fail;refine HINS.out.mono ?_;rintro e w3 ⟨v3,rfl,own3,hgr3,hat3⟩;obtain⟨A3,d3,rfl⟩:=aJ own3;have HFIN:=uZ (aLb (R:=R) HKAT.out (by rw[← HR.out,hL,HL2.out]) HG1.out own3 hgr3 hat3);have hgr:=(World.grownBy_alloc w1 (.cells #[.int .i64 n] 3) (Value.ownBlock (.slice Ak L.length ck))).trans hgr3;have c3:=hgr.cell c1 (fun e=>HKAT.out.off e.symm);have f3:=(World.frozen?_of_block (a:=⟨ab,ao,none⟩) (hgr.block ab HKAT.out.lt (fun e=>HKAT.out.off e.symm))).trans HKAT.out.frz;clear own3 hgr3 hat3 hgr;dsimp only;go_wp2
 go_end0
 exact⟨rfl,by rw[HR.out];exact HFIN.out⟩
):p:=h
theorem aQc (n before:Int):∀(ks:List Int),(before=0→(0:Int)∉ks)→(before≠0→before∈ks)→∃ k,k≤ks.length∧iL n before ks=ks.take k++[n]++ks.drop k∧((lL (fun y=>before == y) ks=(k:Int))∨(lL (fun y=>before == y) ks=-1∧k=ks.length)):=by
 intro ks h1 h2;by_cases h0:before=0
 ·subst h0
  refine⟨ks.length,Nat.le_refl _,?_,.inr ⟨eA _ _ (fun i hi=>?_),rfl⟩⟩
  ·rw[List.take_length,List.drop_length,List.append_nil]
   have:=h1 rfl;clear h1 h2
   induction ks with
   | nil=>rfl
   | cons x r ih =>
    have hx:x≠0:=fun e=>this (by rw[e];simp)
    unfold iL;rw[if_neg hx,ih (fun hm=>this (List.mem_cons_of_mem _ hm))];rfl
  ·have hm:=List.getElem_mem hi
   simp only [beq_eq_false_iff_ne];exact fun e=>h1 rfl (by rw[e];exact hm)
 ·have hm:=h2 h0
  clear h1 h2
  have key:∀ ks:List Int,before∈ks→∃ k,∃ hk:k<ks.length,ks[k]=before∧(∀ i (hi:i<ks.length),i<k→ks[i]≠before)∧iL n before ks=ks.take k++[n]++ks.drop k:=by
   intro ks
   induction ks with
   | nil=>intro h;cases h
   | cons x r ih =>
    intro h;by_cases hx:x=before
    ·refine⟨0,by simp,by simpa using hx,fun i _ hi=>absurd hi (Nat.not_lt_zero _),?_⟩
     unfold iL;rw[if_pos hx];rfl
    ·have hr:before∈r:=by
      rcases List.mem_cons.1 h with e|h
      ·exact absurd e.symm hx
      ·exact h
     obtain⟨k,hk,e1,e2,e3⟩:=ih hr;refine⟨k+1,Nat.succ_lt_succ hk,by simpa using e1,fun i hi hik=>?_,?_⟩
     ·cases i with
      | zero=>exact hx
      | succ i=>exact e2 i (Nat.lt_of_succ_lt_succ hi) b_53
     ·unfold iL
      rw[if_neg hx,e3];rfl
  obtain⟨k,hk,e1,e2,e3⟩:=key ks hm;refine⟨k,by omega,e3,.inl (eW _ _ k hk (by rw[e1];simp) (fun i hi hik=>?_))⟩;simp only [beq_eq_false_iff_ne];exact fun e=>e2 i hi hik e.symm
section
variable {w0:World} {E:Nat} {bv:Value} {t:Tr} {w:World}
theorem aLb {w1 w3:World} {p:Int} {ab ao:Nat} {kv v3:Value} {L:List Int} {n:Int} {k:Nat} {R:Tr} (h:KAt w0.heap.size E bv t p ⟨ab,ao,none⟩ kv w1) (hR:fW t p (L.take k++[n]++L.drop k)=R) (hG:aA w0 w1) (own:w3.ownsRow w0.heap.size 3 1 v3 (L.length+1) ((L.take k++[n]++L.drop k).flatMap eE))
  (hg:(w1.alloc (.cells #[.int .i64 n] 3)).grownBy w3 kv.ownBlock) (hat:v3.ownBlock=kv.ownBlock∨∀ b,v3.ownBlock=some b→(w1.alloc (.cells #[.int .i64 n] 3)).heap.size≤b):EdB w0.heap.size E bv R (w3.setCell ⟨ab,ao,none⟩ v3)∧aA w0 (w3.setCell ⟨ab,ao,none⟩ v3):=by
 have hgr:=(World.grownBy_alloc w1 (.cells #[.int .i64 n] 3) kv.ownBlock).trans hg
 have hl:(L.take k++[n]++L.drop k).length=L.length+1:=by
  simp only [List.length_append,List.length_take,List.length_drop,List.length_cons,List.length_nil];omega
 refine⟨?_,?_⟩
 ·rw[← hR]
  refine h.back w3 v3 _ hgr ?_ (hat.imp_right fun hb b e=>by have:=hb b e;simp at this;omega);unfold pR;rw[hl];exact own
 ·exact(Below.grown hG hgr hG.size (fun b e=>(h.own.lt b e).1)).setCell (p:=⟨ab,ao,none⟩) h.lo v3
theorem bAh (h:EdB w0.heap.size E bv t w) (hG:aA w0 w) (hasc:bP t.brs) (hlen:t.brs.length≤1000000) {p:Int} (hp:p=0∨∃ b∈t.brs,b.id=p) (n before:Int) (h1:before=0→(0:Int)∉aB t p) (h2:before≠0→before∈aB t p) (hkl:(aB t p).length≤1000000) :
  Calls Tryz.prog 134 #[.pointer (some ⟨E,0,none⟩),.int .i64 n,.int .i64 p,.int .i64 before] w fun e w'=>e=.returned (.tuple #[])∧EdB w0.heap.size E bv (fW t p (iL n before (aB t p))) w'∧aA w0 w':=by
 have K:=uZ (bAk h hasc hlen hp);obtain⟨k,hk,hput,hidx⟩:=aQc n before (aB t p) h1 h2;have HL2:=uZ hput;have HKL:=uZ hkl;have HG:=uZ hG;clear h hG hasc hlen hp h1 h2 hput hkl;go_enter Tryz.func134,Tryz.ntmps134;go_wp2_with fail;refine K.out.mono ?_;rintro e w1 ⟨ab,ao,kv,rfl,hkat,g1⟩;have c1:=hkat.cell;have HKAT:=uZ hkat
 have HG1:=uZ (HG.out.trans g1);have hix:=aTo (aB t p) before kv w1 (Rd.of_own hkat.own)
 have hins:=fun(hi:k≤(aB t p).length)=>aVq w0 (aB t p) n k w1.heap.size kv (w1.alloc (.cells #[.int .i64 n] 3)) (hkat.own.alloc _) (HG1.out.alloc _) hi HKL.out (World.alloc_heap_new w1 _) (fun e=>by
  have:=(hkat.own.lt _ e.symm).2
  omega)
 have hbk:=fun w2 v' ks' h1 h2 h3=>hkat.back w2 v' ks' h1 h2 h3
 obtain⟨Ak,ck,rfl⟩:=aJ hkat.own;have HIX:=uZ hix;have HINS:=uZ (hins hk);clear g1 hkat hix hins hbk;have hlz:(0:Int)≤((aB t p).length:Int):=by omega
 have hkz:=h_216;generalize hR:fW t p (iL n before (aB t p))=R at ⊢;have HR:=uZ hR;clear hR;generalize hL:aB t p=L at HKAT HIX HINS HKL hk hidx c1 hlz HL2;rcases hidx with hidx|⟨hidx,hke⟩
 ·rw[hidx] at HIX
  have hkn:¬ (k:Int)<0:=by omega
  exact c_37
 ·rw[hidx] at HIX
  subst hke;exact c_37
end
theorem h_64 {p:Prop} (h:p:=by
 exact(World.frozen?_of_block (a:=⟨ab,ao,none⟩) (hgr3.block ab HKAT2.out.lt (fun e=>HKAT2.out.off e.symm))).trans HKAT2.out.frz
):p:=h
theorem h_221 {p:Prop} (h:p:=by
 exact uZ (((uX w).alloc _).trans g1)
):p:=h
theorem s_33 {p:Prop} (h:p:=by
 obtain⟨rv,cs,hE⟩:=h;obtain⟨B,cap,hbv,-,-,-⟩:=fH hE.brs b_53;obtain⟨-,c1,-⟩:=hE.at_ hi hbv;have hEw:EdB w0.heap.size E bv t w:=⟨rv,cs,hE⟩
 have KB:=uZ (fun W (hW:aA w W)=>iO (hEw.grew hW) hasc hlen hi hbv);obtain⟨ab,ao,kv,hkat,hK⟩:=rX hEw hasc hlen hp;have KK:=uZ hK;have HKAT:=uZ hkat
 have HG:=uZ hG;have C1:=uZ c1;unfold aI;generalize hR:fW t t.brs[i].parent ((aB t t.brs[i].parent).filter fun x=>!(x == t.brs[i].id))=R;have HR:=uZ hR;clear hR;generalize t.brs[i].id=n at KB HR ⊢;generalize t.brs[i].parent=p at KK C1 HKAT HR ⊢;exact nX.g
):p:=h
theorem aNe (n:Int) (B:Nat) (x:Int) (W:World) (h0:W.cell? ⟨B,0,none⟩=some (.int .i64 n)) :
  Calls Tryz.prog 191 (#[.int .i64 x] ++ #[.pointer (some ⟨B,0,none⟩)]) W fun e w'=>e=.returned (.bool (x == n))∧aA W w':=by
 have hB:=World.block_lt_of_cell? W _ h0;go_enter Tryz.func191,Tryz.ntmps191;go_wp2;go_ret;exact⟨rfl,uX W⟩
theorem nR:∀ args w,(callFunc 191 args).run Tryz.prog w=.ok (.enter 191 args) w:=enters_of Tryz.func191 (by kernel_rfl) rfl
section
variable {w0:World} {E:Nat} {bv:Value} {t:Tr} {w:World}
theorem aEs {w1 w3:World} {p n:Int} {ab ao:Nat} {kv v3:Value} {L:List Int} {R:Tr} (h:KAt w0.heap.size E bv t p ⟨ab,ao,none⟩ kv w1) (hR:fW t p (L.filter fun x=>!(x == n))=R) (hG:aA w0 w1) (own:w3.ownsRow w0.heap.size 3 1 v3 (L.filter fun x=>!(x == n)).length ((L.filter fun x=>!(x == n)).flatMap eE))
  (hg:w1.grownBy w3 kv.ownBlock) (hat:v3.ownBlock=kv.ownBlock):EdB w0.heap.size E bv R (w3.setCell ⟨ab,ao,none⟩ v3)∧aA w0 (w3.setCell ⟨ab,ao,none⟩ v3):=by
 refine⟨?_,?_⟩
 ·rw[← hR]
  exact h.back w3 v3 _ hg own (.inl hat)
 ·exact(Below.grown hG hg hG.size (fun b e=>(h.own.lt b e).1)).setCell (p:=⟨ab,ao,none⟩) h.lo v3
theorem rX {base:Nat} (h:EdB base E bv t w) (hasc:bP t.brs) (hlen:t.brs.length≤1000000) {p:Int} (hp:p=0∨∃ b∈t.brs,b.id=p) :
  ∃ ab ao kv,KAt base E bv t p ⟨ab,ao,none⟩ kv w∧∀ W,aA w W→Calls Tryz.prog 131 #[.pointer (some ⟨E,0,none⟩),.int .i64 p] W fun e w'=>e=.returned (.pointer (some ⟨ab,ao,none⟩))∧aA W w':=by
 by_cases hz:p=0
 ·subst hz
  obtain⟨rv,cs,hE⟩:=h;refine⟨E,0,rv,hE.kat0,fun W hW=>?_⟩;clear hE hW;go_enter Tryz.func131,Tryz.ntmps131;go_wp2;go_ret;exact⟨rfl,uX W⟩
 ·obtain⟨b,hb,e⟩:=hp.resolve_left hz
  obtain⟨i,hi,rfl⟩:=List.mem_iff_getElem.1 hb;subst e;obtain⟨rv,cs,hE⟩:=h;obtain⟨B,cap,hbv,-,-,-⟩:=fH hE.brs b_53;refine⟨B,i*6+5,_,hE.katB hasc hi hz hbv,fun W hW=>?_⟩;have hEW:EdB base E bv t W:=⟨rv,cs,hE.grew hW⟩
  have K:=uZ (iO hEW hasc hlen hi hbv);have hz':(t.brs[i].id == 0)=false:=by simpa using hz
  generalize t.brs[i].id=p at K hz' ⊢;clear hE hz hb hp hEW hW;go_enter Tryz.func131,Tryz.ntmps131;go_wp2_with fail;refine K.out.mono ?_;rintro e w1 ⟨rfl,g1⟩;dsimp only;go_wp2;go_ret;exact⟨rfl,g1⟩
def zGe:=Unit
theorem zGe.g {p:Prop} (_:zGe) (h:p:=by
 clear hE hEw hG hasc hlen hp c1 hbv hkat hK;go_enter Tryz.func137,Tryz.ntmps137;go_wp2_with fail;refine(KB.out _ ((uX w).alloc _)).mono ?_;rintro e w1 ⟨rfl,g1⟩;have b0:=yQ (cs:=[.int .i64 n]) g1 0 _ rfl;have HG1:=h_221;have c1:=uQ HG1.out C1.out;clear g1;dsimp only;go_wp2_with fail;refine(KK.out _ HG1.out).mono ?_;rintro e w2 ⟨rfl,g2⟩;have hk2:=HKAT.out.grew (HG1.out.trans g2);have b2:=uQ g2 b0;have d1:=hk2.cell;have HKAT2:=uZ hk2;have HG2:=uZ (HG.out.trans (HG1.out.trans g2))
 have hbox:some w.heap.size≠kv.ownBlock:=fun e=>by
  have:=(HKAT.out.own.lt _ e.symm).2;omega
 have hdel:=tI (aB t p) (fun x=>x == n) 191 #[.pointer (some ⟨w.heap.size,0,none⟩)] nR w0.heap.size kv w2 HG2.out.size hk2.own (fun W x hW _=>aNe n w.heap.size x W (hW.cell b2 hbox));have HDEL:=uZ hdel;obtain⟨Ak,ck,rfl⟩:=aJ hk2.own;clear g2 hk2 hdel b0 c1 hbox;generalize aB t p=L at HDEL HR d1 HKAT2;dsimp only;go_wp2_with fail;refine HDEL.out.mono ?_;rintro e w3 ⟨v3,rfl,own3,hat3,-,hgr3⟩;obtain⟨A3,d3,rfl⟩:=aJ own3;have HFIN:=uZ (aEs (R:=R) HKAT2.out HR.out HG2.out own3 hgr3 hat3);have c3:=hgr3.cell d1 (fun e=>HKAT2.out.off e.symm);have f3:=h_64;clear own3 hgr3 hat3;dsimp only;go_wp2
 go_end0
 exact⟨rfl,HFIN.out⟩
):p:=h
theorem bAg (h:EdB w0.heap.size E bv t w) (hG:aA w0 w) (hasc:bP t.brs) (hlen:t.brs.length≤1000000) {i:Nat} (hi:i<t.brs.length) (hp:t.brs[i].parent=0∨∃ b∈t.brs,b.id=t.brs[i].parent) :
  Calls Tryz.prog 137 #[.pointer (some ⟨E,0,none⟩),.int .i64 t.brs[i].id] w fun e w'=>e=.returned (.tuple #[])∧EdB w0.heap.size E bv (fW t t.brs[i].parent (aI t.brs[i].id (aB t t.brs[i].parent))) w'∧aA w0 w':=by
 have nX:zGe:=()
 exact s_33
end
end Go.Proofs.YtdochkemaiokfaaGreat







