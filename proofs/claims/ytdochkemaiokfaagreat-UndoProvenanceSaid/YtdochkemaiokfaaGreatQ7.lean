/- Lemmas on what the functions of the program and of the library compute: PlainO, Ed1, PlainP, Ed2, Es1, Del3, PlainQ, Es2. The conditions stand at each. -/
import Derived.Test.YtdochkemaiokfaaGreatQ5
import Derived.Test.YtdochkemaiokfaaGreatQ6
import Derived.Test.YtdochkemaiokfaaGreatQ4
import Derived.Test.YtdochkemaiokfaaGreatQ1
/- A tree that is right but for its depth: by its list, and by membership. No condition. -/
namespace Go.Proofs.YtdochkemaiokfaaGreat
open Go.RowKit
theorem all_mem {l:List Br} {P:Br→Prop}:(∀ i (h:i<l.length),P l[i])↔∀ b∈l,P b:=by
 constructor
 ·intro h b hb
  obtain⟨k,hk,rfl⟩:=List.mem_iff_getElem.1 hb
  exact h k hk
 ·exact fun h i hi=>h _ (List.getElem_mem hi)
theorem sound_iff (t:Tr):SoundT t↔SoundM t:=by
 constructor
 ·rintro ⟨h0,h1,h2,h3,h4,h5⟩
  obtain⟨ha,hu,hm⟩:=(alone_iff t.brs).1 h1
  have hp:=(all_mem (P:=BrPlaced t.brs)).1 h2
  refine⟨h0,ha,hu,hm,hp,fun b hb=>(kidsAre_iff ha _ _).2 ((all_mem (P:=fun b=>sortI b.kids=kidsOf t.brs b.id)).1 h3 b hb),(kidsAre_iff ha _ _).2 h4,rank_of_deep ha (placed_upM hp) ((all_mem (P:=fun b=>(deep t.brs t.brs.length b).isSome=true)).1 h5)⟩
 ·rintro ⟨h0,ha,hu,hm,hp,hk,hr,r,hrk⟩
  refine⟨h0,(alone_iff t.brs).2 ⟨ha,hu,hm⟩,(all_mem (P:=BrPlaced t.brs)).2 hp,(all_mem (P:=fun b=>sortI b.kids=kidsOf t.brs b.id)).2 fun b hb=>(kidsAre_iff ha _ _).1 (hk b hb),(kidsAre_iff ha _ _).1 hr,(all_mem (P:=fun b=>(deep t.brs t.brs.length b).isSome=true)).2 fun b hb=>deep_full ha hb (deep_of_rank (placed_upM hp) r hrk (r b.id) b hb (Nat.le_refl _))⟩
theorem right_sound {t:Tr} (h:RightT t):SoundM t:=by
 refine(sound_iff t).1 ⟨h.1,h.2.1,h.2.2.1,h.2.2.2.1,h.2.2.2.2.1,fun i hi=>?_⟩
 obtain⟨d,hd,-⟩:=h.2.2.2.2.2 i hi
 rw[hd]
 rfl
theorem right_iff (t:Tr):RightT t↔SoundM t∧∀ b∈t.brs,BrDeep t.brs b:=by
 constructor
 ·exact fun h=>⟨right_sound h,(all_mem (P:=BrDeep t.brs)).1 h.2.2.2.2.2⟩
 ·rintro ⟨h,hd⟩
  obtain⟨h0,h1,h2,h3,h4,-⟩:=(sound_iff t).2 h
  exact⟨h0,h1,h2,h3,h4,(all_mem (P:=BrDeep t.brs)).2 hd⟩
structure Opn where
 id:Int
 day:Int
 kind:Int
 unit:Int
 parent:Int
 before:Int
 level:Int
 title:ByteArray
 mark:ByteArray
 office:Int
 acc:Int
 num:Int
deriving DecidableEq,Inhabited
def childs (t:Tr) (p:Int):List Int:=if p=0 then t.roots else match brFind t.brs p with
 | none=>[]
 | some b=>b.kids
def setK (t:Tr) (p:Int) (ks:List Int):Tr:=if p=0 then⟨ks,t.brs⟩ else⟨t.roots,t.brs.map fun b=>if b.id=p then { b with kids:=ks } else b⟩
def putF (n before:Int):List Int→List Int
 | []=>if before=0 then[n] else[]
 | x::r=>if x=before then n::x::r else x::putF n before r
def withoutF (n:Int) (l:List Int):List Int:=l.filter fun x=>!(x == n)
def insB (b:Br):List Br→List Br
 | []=>[b]
 | x::r=>if x.id<b.id then x::insB b r else b::x::r
def setU (t:Tr) (n:Int) (f:Br→Br):Tr:=⟨t.roots,t.brs.map fun b=>if b.id=n then f b else b⟩
def createT (t:Tr) (o:Opn):Tr :=
 let t1:=setK t o.parent (putF o.unit o.before (childs t o.parent))
 ⟨t1.roots,insB ⟨o.unit,o.parent,o.level,o.title,o.mark,[]⟩ t1.brs⟩
def moveT (t:Tr) (o:Opn) (u:Br):Tr :=
 let t1:=setK t u.parent (withoutF o.unit (childs t u.parent))
 let t2:=setK t1 o.parent (putF o.unit o.before (childs t1 o.parent))
 setU t2 o.unit fun b=>{ b with parent:=o.parent }
def removeT (t:Tr) (o:Opn) (u:Br):Tr :=
 let t1:=setK t u.parent (withoutF o.unit (childs t u.parent))
 ⟨t1.roots,t1.brs.filter fun b=>!(b.id == o.unit)⟩
end Go.Proofs.YtdochkemaiokfaaGreat
/- The editor's tree in memory: a box with two slices, the branches in a row of the call's own, each list of children in a row of its own; and what a store into any of them leads to. No condition. -/
namespace Go.Proofs.YtdochkemaiokfaaGreat
open Go.RowKit
def OwnI (base:Nat) (w:World) (v:Value) (l:List Int):Prop:=w.ownsRow base 3 1 v l.length (l.flatMap oneI)
def Apart (vs:List Value):Prop:=vs.Pairwise fun a b=>∀ g,a.ownBlock=some g→b.ownBlock≠some g
structure Ed (base E:Nat) (rv bv:Value) (cs:List BrC) (t:Tr) (w:World):Prop where
 le:base≤E
 box:w.heap[E]? = some (.cells #[rv,bv] 128 (0,0))
 roots:OwnI base w rv t.roots
 brs:w.ownsRow base 66 6 bv t.brs.length (cs.flatMap BrC.cells)
 len:cs.length=t.brs.length
 each:∀ i (h:i<cs.length) (h':i<t.brs.length),cs[i]=t.brs[i].c cs[i].kv∧OwnI base w cs[i].kv t.brs[i].kids
 apart:Apart (rv::cs.map BrC.kv)
def EdS (base E:Nat) (t:Tr) (w:World):Prop:=∃ rv bv cs,Ed base E rv bv cs t w
theorem ne_IB:(3:Nat)≠66:=by decide
theorem ne_IE:(3:Nat)≠128:=by decide
theorem ne_BE:(66:Nat)≠128:=by decide
section
variable {base E n k g:Nat} {rv bv v v':Value} {cs:List BrC} {t:Tr} {w w1 w':World} {e e':TypeId} {xs:List Value}
theorem own_ty (h:w.ownsRow base e k v n xs) (hg:v.ownBlock=some g):∃ cur,w.heap[g]? = some (.cells cur e (0,0)):=by
 rcases h.2 with ⟨rfl,_⟩|⟨g',cap,cur,rfl,_,hh,_⟩
 ·simp[Value.ownBlock] at hg
 ·simp[Value.ownBlock] at hg
  subst hg
  exact⟨cur,hh⟩
theorem own_ne (h:w.ownsRow base e k v n xs) {cur:Array Value} (hg:w.heap[g]? = some (.cells cur e' (0,0))) (hne:e≠e'):v.ownBlock≠some g:=by
 intro hb
 obtain⟨c,hc⟩:=own_ty h hb
 rw[hg] at hc
 injection hc with hc
 injection hc with _ hc _
 exact hne hc.symm
theorem own_off {n' k':Nat} {xs':List Value} (h:w.ownsRow base e k v n xs) (h':w.ownsRow base e' k' v' n' xs') (hne:e≠e'):∀ g,v.ownBlock=some g→v'.ownBlock≠some g:=by
 intro g hg hg'
 obtain⟨c,hc⟩:=own_ty h' hg'
 exact own_ne h hc hne hg
theorem own_kept (h:w.ownsRow base e k v n xs) {row:Option Nat} (hg:w.grownBy w' row) (hne:∀ g,row=some g→v.ownBlock≠some g):w'.ownsRow base e k v n xs:=by
 refine h.kept hg ?_
 cases hv:v.ownBlock with
 | none=>exact .inl rfl
 | some b=>exact .inr fun e=>hne b e.symm hv
theorem heap_kept {row:Option Nat} {o:Obj} (h:w.heap[g]? = some o) (hg:w.grownBy w' row) (hne:row≠some g):w'.heap[g]? = some o:=by
 rw[hg.block g (Array.getElem?_eq_some_iff.1 h).1 (fun e=>hne e.symm)]
 exact h
theorem heap_set (a:Addr) (u:Value) {o:Obj} (h:w.heap[g]? = some o) (hne:g≠a.block):(w.setCell a u).heap[g]? = some o:=by rw[Below.heap_setCell _ _ _ _ hne];exact h
theorem Ed.grew (h:Ed base E rv bv cs t w) (hg:Grew w w'):Ed base E rv bv cs t w' where
 le:=h.le
 box:=by rw[hg.block E (Array.getElem?_eq_some_iff.1 h.box).1];exact h.box
 roots:=own_later h.roots hg
 brs:=own_later h.brs hg
 len:=h.len
 each:=fun i hi hi'=>⟨(h.each i hi hi').1,own_later (h.each i hi hi').2 hg⟩
 apart:=h.apart
theorem EdS.grew (h:EdS base E t w) (hg:Grew w w'):EdS base E t w':=by
 obtain⟨rv,bv,cs,h⟩:=h
 exact⟨rv,bv,cs,h.grew hg⟩
theorem Ed.tree (h:Ed base E rv bv cs t w):SlI w rv t.roots∧SlBr w bv t.brs:=by
 have h1:Rd w 1 rv (t.roots.flatMap oneI):=Rd.of_own h.roots
 exact⟨h1,cs,Rd.of_own h.brs,h.len,fun i hi hi'=>⟨(h.each i hi hi').1,Rd.of_own (h.each i hi hi').2⟩⟩
theorem Ed.cells (h:Ed base E rv bv cs t w):w.cell? ⟨E,0,none⟩=some rv∧w.cell? ⟨E,1,none⟩=some bv∧w.frozen? ⟨E,0,none⟩=false∧w.frozen? ⟨E,1,none⟩=false:=by
 have hb:=h.box
 simp[World.cell?,World.frozen?,hb]
theorem Ed.one (h:Ed base E rv bv cs t w):∀ c∈cs,c.kv.oneCell'=true:=by
 intro c hc
 obtain⟨i,hi,rfl⟩:=List.mem_iff_getElem.1 hc
 obtain⟨_,h2⟩:=h.each i hi (by have:=h.len;omega)
 rcases h2.2 with ⟨e,_⟩|⟨g,cap,cur,e,_⟩
 ·rw[e];rfl
 ·rw[e];rfl
theorem flat_set {c c':BrC} {j:Nat} {u:Value} (hj:j<6) (hc:c'.cells=c.cells.set j u):∀(cs:List BrC) (i:Nat) (hi:i<cs.length),cs[i]=c→(cs.flatMap BrC.cells).set (i*6+j) u=(cs.set i c').flatMap BrC.cells
 | [],i,hi,_=>absurd hi (Nat.not_lt_zero _)
 | x::r,0,_,e=>by
  simp only [List.getElem_cons_zero] at e
  subst e
  rw[List.set_cons_zero,List.flatMap_cons,List.flatMap_cons,hc,Nat.zero_mul,Nat.zero_add,List.set_append_left _ _ (by simpa [BrC.cells] using hj)]
 | x::r,i+1,hi,e=>by
  have hl:x.cells.length=6:=rfl
  have ih:=flat_set hj hc r i (by simpa using hi) (by simpa using e)
  rw[List.set_cons_succ,List.flatMap_cons,List.flatMap_cons,List.set_append_right _ _ (by omega),← ih]
  congr 2
  omega
theorem Apart.head {x y:Value} {l:List Value} (h:Apart (x::l)) (hy:y.ownBlock=x.ownBlock∨∀ g,y.ownBlock=some g→∀ v∈l,v.ownBlock≠some g):Apart (y::l):=by
 obtain⟨h1,h2⟩:=List.pairwise_cons.1 h
 refine List.pairwise_cons.2 ⟨fun v hv g hg=>?_,h2⟩
 rcases hy with hy|hy
 ·exact h1 v hv g (by rw[← hy];exact hg)
 ·exact hy g hg v hv
theorem Apart.at_ {l:List Value} (h:Apart l) {i j:Nat} (hi:i<l.length) (hj:j<l.length) (hij:i≠j):∀ g,l[i].ownBlock=some g→l[j].ownBlock≠some g:=by
 intro g hg hg'
 rcases Nat.lt_or_gt_of_ne hij with hlt|hlt
 ·exact List.pairwise_iff_getElem.1 h i j hi hj hlt g hg hg'
 ·exact List.pairwise_iff_getElem.1 h j i hj hi hlt g hg' hg
theorem Apart.of {l:List Value} (h:∀ i j (hi:i<l.length) (hj:j<l.length),i<j→∀ g,l[i].ownBlock=some g→l[j].ownBlock≠some g):Apart l:=List.pairwise_iff_getElem.2 fun i j hi hj hij=>h i j hi hj hij
theorem Apart.set {y:Value} {l:List Value} (h:Apart l) {i:Nat} (hi:i<l.length) (hy:y.ownBlock=l[i].ownBlock∨∀ g,y.ownBlock=some g→∀ v∈l,v.ownBlock≠some g):Apart (l.set i y):=by
 refine Apart.of fun a b ha hb hab g hg hg'=>?_
 have ha2:a<l.length:=by simpa using ha
 have hb2:b<l.length:=by simpa using hb
 by_cases e1:a=i
 ·subst e1
  rw[List.getElem_set_self] at hg
  rw[List.getElem_set_ne (by omega)] at hg'
  rcases hy with hy|hy
  ·exact h.at_ ha2 hb2 (by omega) g (by rw[← hy];exact hg) hg'
  ·exact hy g hg _ (List.getElem_mem hb2) hg'
 ·rw[List.getElem_set_ne (by omega)] at hg
  by_cases e2:b=i
  ·subst e2
   rw[List.getElem_set_self] at hg'
   rcases hy with hy|hy
   ·exact h.at_ ha2 hb2 (by omega) g hg (by rw[← hy];exact hg')
   ·exact hy g hg' _ (List.getElem_mem ha2) hg
  ·rw[List.getElem_set_ne (by omega)] at hg'
   exact h.at_ ha2 hb2 (by omega) g hg hg'
theorem Ed.rows (h:Ed base E rv bv cs t w):∀ v∈rv::cs.map BrC.kv,∃ l,OwnI base w v l:=by
 intro v hv
 rcases List.mem_cons.1 hv with e|hv
 ·exact⟨_,by rw[e];exact h.roots⟩
 ·obtain⟨c,hc,rfl⟩:=List.mem_map.1 hv
  obtain⟨i,hi,rfl⟩:=List.mem_iff_getElem.1 hc
  exact⟨_,(h.each i hi (by have:=h.len;omega)).2⟩
theorem Ed.fresh (h:Ed base E rv bv cs t w) (hv:∀ b,v'.ownBlock=some b→w.heap.size≤b):∀ g,v'.ownBlock=some g→∀ v∈rv::cs.map BrC.kv,v.ownBlock≠some g:=by
 intro g hg v hm hb
 obtain⟨l,hl⟩:=h.rows v hm
 have:=(hl.lt g hb).2
 have:=hv g hg
 omega
theorem Ed.setRoots (h:Ed base E rv bv cs t w) (hg:w.grownBy w1 rv.ownBlock) {ks:List Int} (hv:OwnI base w1 v' ks) (hat:v'.ownBlock=rv.ownBlock∨∀ b,v'.ownBlock=some b→w.heap.size≤b):Ed base E v' bv cs ⟨ks,t.brs⟩ (w1.setCell ⟨E,0,none⟩ v'):=by
 have hbx:w1.heap[E]? = some (.cells #[rv,bv] 128 (0,0)):=heap_kept h.box hg (own_ne h.roots h.box ne_IE)
 have hbr:=own_kept h.brs hg (fun g hr=>own_off h.roots h.brs ne_IB g hr)
 refine⟨h.le,?_,?_,?_,h.len,fun i hi hi'=>⟨(h.each i hi hi').1,?_⟩,h.apart.head (hat.imp_right fun hf g hg v hm=>h.fresh hf g hg v (List.mem_cons_of_mem _ hm))⟩
 ·have:=heap_setCell_same w1 E 0 #[rv,bv] 128 v' hbx
  simpa using this
 ·exact ownsRow_setCell_other hv (own_ne hv hbx ne_IE) _
 ·exact ownsRow_setCell_other hbr (own_ne hbr hbx ne_BE) _
 ·have h1:=own_kept (h.each i hi hi').2 hg (fun g hr=>(List.pairwise_cons.1 h.apart).1 _ (List.mem_map.2 ⟨_,List.getElem_mem hi,rfl⟩) g hr)
  exact ownsRow_setCell_other h1 (own_ne h1 hbx ne_IE) _
theorem Ed.poke (h:Ed base E rv bv cs t w) {i j:Nat} (hi:i<cs.length) (hi':i<t.brs.length) (hj:j<6) {row:Option Nat} (hg:w.grownBy w1 row) (hrow:row=none∨row=cs[i].kv.ownBlock) {c':BrC} {b':Br} {u:Value} (hc:c'.cells=cs[i].cells.set j u) (hb:c'=b'.c c'.kv)
  (hk:OwnI base w1 c'.kv b'.kids) (hat:c'.kv.ownBlock=cs[i].kv.ownBlock∨∀ b,c'.kv.ownBlock=some b→w.heap.size≤b):∃ B cap,bv=.slice (some ⟨B,0,none⟩) t.brs.length cap∧Ed base E rv bv (cs.set i c') ⟨t.roots,t.brs.set i b'⟩ (w1.setCell ⟨B,i*6+j,none⟩ u):=by
 obtain⟨B,cap,hbv,hbb,-,-⟩:=own_form h.brs (by omega)
 subst hbv
 have hkv:=(h.each i hi hi').2
 have hmem:cs[i].kv∈cs.map BrC.kv:=List.mem_map.2 ⟨_,List.getElem_mem hi,rfl⟩
 have hoff:∀ v∈rv::cs.map BrC.kv,(∃ m,m<(rv::cs.map BrC.kv).length∧m≠i+1∧(rv::cs.map BrC.kv)[m]? = some v)→∀ g,row=some g→v.ownBlock≠some g:=by
  rintro v _ ⟨m,hm,hne,e⟩ g hr
  rcases hrow with h0|h0
  ·rw[h0] at hr;cases hr
  rw[h0] at hr
  have e2:(rv::cs.map BrC.kv)[m]=v:=by rw[List.getElem?_eq_getElem hm] at e;exact Option.some.inj e
  have:=h.apart.at_ (i:=i+1) (j:=m) (by simpa using hi) hm (fun e=>hne e.symm) g (by simpa using hr)
  rw[e2] at this
  exact this
 have hrowI:∀ g,row=some g→cs[i].kv.ownBlock=some g:=fun g hr=>by
  rcases hrow with h0|h0
  ·rw[h0] at hr;cases hr
  ·rw[← h0];exact hr
 have hbx:w1.heap[E]? = some (.cells #[rv,.slice (some ⟨B,0,none⟩) t.brs.length cap] 128 (0,0)):=heap_kept h.box hg (fun e=>own_ne hkv h.box ne_IE (hrowI E e))
 have hbr:=own_kept h.brs hg (fun g hr=>own_off hkv h.brs ne_IB g (hrowI g hr))
 obtain⟨curB,hB⟩:=own_ty hbr (g:=B) rfl
 have hrt:=own_kept h.roots hg (fun g hr=>hoff rv (List.mem_cons_self ..) ⟨0,by simp,by omega,rfl⟩ g hr)
 refine⟨B,cap,rfl,h.le,heap_set _ _ hbx (fun e=>own_ne hbr hbx ne_BE (by simp[Value.ownBlock];exact e.symm)),ownsRow_setCell_other hrt (own_ne hrt hB ne_IB) _,?_,by simp[h.len],fun m hm hm'=>?_,?_⟩
 ·have h1:=(hbr.stored (i*6+j) u).1
  rw[flat_set hj hc cs i hi rfl] at h1
  simpa using h1
 ·have hm2:m<cs.length:=by simpa using hm
  have hm3:m<t.brs.length:=by simpa using hm'
  by_cases e:m=i
  ·subst e
   rw[List.getElem_set_self,List.getElem_set_self]
   exact⟨hb,ownsRow_setCell_other hk (own_ne hk hB ne_IB) _⟩
  ·rw[List.getElem_set_ne (by omega),List.getElem_set_ne (by omega)]
   obtain⟨e1,e2⟩:=h.each m hm2 hm3
   refine⟨e1,?_⟩
   have h1:=own_kept e2 hg (fun g hr=>hoff cs[m].kv (List.mem_cons_of_mem _ (List.mem_map.2 ⟨_,List.getElem_mem hm2,rfl⟩)) ⟨m+1,by simpa using hm2,by omega,by simp[hm2]⟩ g hr)
   exact ownsRow_setCell_other h1 (own_ne h1 hB ne_IB) _
 ·have h1:=h.apart.set (i:=i+1) (y:=c'.kv) (by simpa using hi) (by simpa using hat.imp_right fun hf g hg v hm=>h.fresh hf g hg v hm)
  simpa [List.map_set] using h1
theorem Ed.setBrs (h:Ed base E rv bv cs t w) (hg:w.grownBy w1 bv.ownBlock) {ds:List BrC} {l:List Br} (hv:w1.ownsRow base 66 6 v' l.length (ds.flatMap BrC.cells)) (hlen:ds.length=l.length)
  (hea:∀ i (h:i<ds.length) (h':i<l.length),ds[i]=l[i].c ds[i].kv∧OwnI base w1 ds[i].kv l[i].kids) (hap:Apart (rv::ds.map BrC.kv)):Ed base E rv v' ds ⟨t.roots,l⟩ (w1.setCell ⟨E,1,none⟩ v'):=by
 have hbx:w1.heap[E]? = some (.cells #[rv,bv] 128 (0,0)):=heap_kept h.box hg (own_ne h.brs h.box ne_BE)
 have hrt:=own_kept h.roots hg (fun g hr hv=>own_off h.roots h.brs ne_IB g hv hr)
 refine⟨h.le,?_,ownsRow_setCell_other hrt (own_ne hrt hbx ne_IE) _,ownsRow_setCell_other hv (own_ne hv hbx ne_BE) _,hlen,fun i hi hi'=>⟨(hea i hi hi').1,ownsRow_setCell_other (hea i hi hi').2 (own_ne (hea i hi hi').2 hbx ne_IE) _⟩,hap⟩
 have:=heap_setCell_same w1 E 1 #[rv,bv] 128 v' hbx
 simpa using this
end
end Go.Proofs.YtdochkemaiokfaaGreat
/- A tree that is right but for its depth: its units and its lists of children apart; other children leave the units as they are. No condition. -/
namespace Go.Proofs.YtdochkemaiokfaaGreat
open Go.RowKit
def core (b:Br):Br:={ b with kids:=[] }
structure CoreM (l:List Br):Prop where
 len:l.length≤256
 asc:idsAsc l
 units:∀ b∈l,UnitOk b
 marks:∀ b∈l,∀ c∈l,b.mark.toList.isEmpty=false→b.mark.toList=c.mark.toList→b.id=c.id
 placed:∀ b∈l,BrPlaced l b
 rank:∃ r:Int→Nat,∀ b∈l,b.parent≠0→r b.parent<r b.id
theorem find_iff {l:List Br} (h:idsAsc l) (n:Int) (b:Br):brFind l n=some b↔b∈l∧b.id=n :=
 ⟨find_in,fun⟨h1,h2⟩=>by rw[← h2];exact find_byid h h1⟩
theorem find_none {l:List Br} (n:Int):brFind l n=none↔∀ b∈l,b.id≠n:=by
 unfold brFind
 rw[List.find?_eq_none]
 simp
theorem fits_one {p c:Int} (h:fitsF p c=true):c≠1:=by
 unfold fitsF within at h
 simp at h
 omega
theorem placed_mem {l:List Br} (h:idsAsc l) (b:Br):BrPlaced l b↔(b.parent=0∧b.level=1)∨(b.parent≠0∧∃ p∈l,p.id=b.parent∧fitsF p.level b.level=true):=by
 unfold BrPlaced
 by_cases hp:b.parent=0
 ·simp[hp]
 ·rw[if_neg hp]
  constructor
  ·rintro ⟨p,hf,h1,h2⟩
   have:=find_in hf
   exact .inr ⟨hp,p,this.1,this.2,h2⟩
  ·rintro (⟨h0,_⟩|⟨_,p,hm,hi,hf⟩)
   ·exact absurd h0 hp
   ·exact⟨p,by rw[← hi];exact find_byid h hm,fits_one hf,hf⟩
theorem core_all {a b:Br} (h:core a=core b):a.id=b.id∧a.parent=b.parent∧a.level=b.level∧a.title=b.title∧a.mark=b.mark:=by
 obtain⟨a0,a1,a2,a3,a4,a5⟩:=a
 obtain⟨b0,b1,b2,b3,b4,b5⟩:=b
 simp only [core,Br.mk.injEq,and_true] at h
 exact h
theorem core_map {l:List Br} (g:Br→Br) (hg:∀ b,core (g b)=core b) (h:CoreM l):CoreM (l.map g):=by
 have e1:∀ b,(g b).id=b.id:=fun b=>(core_all (hg b)).1
 have e2:∀ b,(g b).parent=b.parent:=fun b=>(core_all (hg b)).2.1
 have e3:∀ b,(g b).level=b.level:=fun b=>(core_all (hg b)).2.2.1
 have e4:∀ b,(g b).title=b.title:=fun b=>(core_all (hg b)).2.2.2.1
 have e5:∀ b,(g b).mark=b.mark:=fun b=>(core_all (hg b)).2.2.2.2
 have hasc:idsAsc (l.map g):=List.Pairwise.map _ (fun a b hab=>by rw[e1,e1];exact hab) h.asc
 refine⟨by rw[List.length_map];exact h.len,hasc,?_,?_,?_,?_⟩
 ·intro b hb
  obtain⟨c,hc,rfl⟩:=List.mem_map.1 hb
  have:=h.units c hc
  unfold UnitOk at this ⊢
  rw[e1,e3,e4,e5]
  exact this
 ·intro b hb c hc
  obtain⟨b1,hb1,rfl⟩:=List.mem_map.1 hb
  obtain⟨c1,hc1,rfl⟩:=List.mem_map.1 hc
  rw[e1,e1,e5,e5]
  exact h.marks b1 hb1 c1 hc1
 ·intro b hb
  obtain⟨b1,hb1,rfl⟩:=List.mem_map.1 hb
  rw[placed_mem hasc,e2,e3]
  rcases (placed_mem h.asc b1).1 (h.placed b1 hb1) with h1|⟨h1,p,hp,h2,h3⟩
  ·exact .inl h1
  ·exact .inr ⟨h1,g p,List.mem_map.2 ⟨p,hp,rfl⟩,by rw[e1];exact h2,by rw[e3];exact h3⟩
 ·obtain⟨r,hr⟩:=h.rank
  refine⟨r,fun b hb=>?_⟩
  obtain⟨b1,hb1,rfl⟩:=List.mem_map.1 hb
  rw[e1,e2]
  exact hr b1 hb1
theorem kids_map {l:List Br} (g:Br→Br) (hg:∀ b,core (g b)=core b) (ks:List Int) (p:Int):KidsAre (l.map g) ks p↔KidsAre l ks p:=by
 have e1:∀ b,(g b).id=b.id:=fun b=>(core_all (hg b)).1
 have e2:∀ b,(g b).parent=b.parent:=fun b=>(core_all (hg b)).2.1
 unfold KidsAre
 have hx:∀ x,(∃ b∈l.map g,b.parent=p∧b.id=x)↔∃ b∈l,b.parent=p∧b.id=x:=by
  intro x
  constructor
  ·rintro ⟨b,hb,h1,h2⟩
   obtain⟨c,hc,rfl⟩:=List.mem_map.1 hb
   rw[e2] at h1
   rw[e1] at h2
   exact⟨c,hc,h1,h2⟩
  ·rintro ⟨b,hb,h1,h2⟩
   exact⟨g b,List.mem_map.2 ⟨b,hb,rfl⟩,by rw[e2];exact h1,by rw[e1];exact h2⟩
 simp only [hx]
def KidsAll (t:Tr):Prop:=∀ p,(p=0∨∃ b∈t.brs,b.id=p)→KidsAre t.brs (childs t p) p
theorem unit_pos {b:Br} (h:UnitOk b):b.id≠0:=by
 have:=within_t.1 h.1
 omega
theorem childs_of {t:Tr} (h:idsAsc t.brs) {b:Br} (hb:b∈t.brs) (h0:b.id≠0):childs t b.id=b.kids:=by
 unfold childs
 rw[if_neg h0,find_byid h hb]
theorem sound_parts (t:Tr):SoundM t↔CoreM t.brs∧KidsAll t:=by
 constructor
 ·intro h
  refine⟨⟨h.len,h.asc,h.units,h.marks,h.placed,h.rank⟩,fun p hp=>?_⟩
  rcases hp with rfl|⟨b,hb,rfl⟩
  ·exact h.roots
  ·rw[childs_of h.asc hb (unit_pos (h.units b hb))]
   exact h.kids b hb
 ·rintro ⟨h,hk⟩
  refine⟨h.len,h.asc,h.units,h.marks,h.placed,fun b hb=>?_,hk 0 (.inl rfl),h.rank⟩
  have:=hk b.id (.inr ⟨b,hb,rfl⟩)
  rw[childs_of h.asc hb (unit_pos (h.units b hb))] at this
  exact this
def kidG (p:Int) (ks:List Int) (b:Br):Br:=if b.id=p then { b with kids:=ks } else b
theorem kidG_core (p:Int) (ks:List Int) (b:Br):core (kidG p ks b)=core b:=by
 unfold kidG core
 split<;>rfl
theorem setK_brs (t:Tr) (p:Int) (ks:List Int):(setK t p ks).brs=if p=0 then t.brs else t.brs.map (kidG p ks):=by
 unfold setK kidG
 split<;>rfl
theorem setK_core {t:Tr} (p:Int) (ks:List Int) (h:CoreM t.brs):CoreM (setK t p ks).brs:=by
 rw[setK_brs]
 split
 ·exact h
 ·exact core_map _ (kidG_core p ks) h
theorem setK_kids (t:Tr) (p:Int) (ks:List Int) (qs:List Int) (q:Int):KidsAre (setK t p ks).brs qs q↔KidsAre t.brs qs q:=by
 rw[setK_brs]
 split
 ·exact Iff.rfl
 ·exact kids_map _ (kidG_core p ks) qs q
theorem find_map {l:List Br} (g:Br→Br) (hg:∀ b,(g b).id=b.id) (n:Int):brFind (l.map g) n=(brFind l n).map g:=by
 unfold brFind
 rw[List.find?_map]
 congr 1
 congr 1
 funext b
 simp[hg]
theorem setK_childs {t:Tr} (p:Int) (ks:List Int) (q:Int) (hp:p=0∨∃ b∈t.brs,b.id=p):childs (setK t p ks) q=if q=p then ks else childs t q:=by
 by_cases h0:p=0
 ·subst h0
  unfold childs setK
  simp only [if_true]
  by_cases hq:q=0<;>simp[hq]
 ·have hs:setK t p ks=⟨t.roots,t.brs.map (kidG p ks)⟩:=by
   unfold setK kidG
   rw[if_neg h0]
  rw[hs]
  unfold childs
  by_cases hq:q=0
  ·subst hq
   rw[if_pos rfl,if_pos rfl,if_neg (fun e=>h0 e.symm)]
  ·simp only [if_neg hq]
   rw[find_map _ (fun b=>(core_all (kidG_core p ks b)).1)]
   cases hf:brFind t.brs q with
   | none =>
    have hn:=(find_none q).1 hf
    have hqp:q≠p:=by
     rintro rfl
     rcases hp with h|⟨b,hb,e⟩
     ·exact h0 h
     ·exact hn b hb e
    rw[if_neg hqp]
    rfl
   | some b =>
    have hb:=find_in hf
    show(kidG p ks b).kids=_
    unfold kidG
    by_cases hqp:q=p
    ·rw[if_pos hqp,if_pos (by rw[hb.2];exact hqp)]
    ·rw[if_neg hqp,if_neg (by rw[hb.2];exact hqp)]
theorem setK_ids (t:Tr) (p:Int) (ks:List Int) (q:Int):(∃ b∈(setK t p ks).brs,b.id=q)↔∃ b∈t.brs,b.id=q:=by
 rw[setK_brs]
 split
 ·exact Iff.rfl
 ·constructor
  ·rintro ⟨b,hb,e⟩
   obtain⟨c,hc,rfl⟩:=List.mem_map.1 hb
   exact⟨c,hc,by rw[← e];exact(core_all (kidG_core p ks c)).1.symm⟩
  ·rintro ⟨b,hb,e⟩
   exact⟨_,List.mem_map.2 ⟨b,hb,rfl⟩,by rw[← e];exact(core_all (kidG_core p ks b)).1⟩
end Go.Proofs.YtdochkemaiokfaaGreat
/- Where the editor's lists of children lie, and what a store there leads to; a store into a field of a unit. No condition. -/
namespace Go.Proofs.YtdochkemaiokfaaGreat
open Go.RowKit
def EdB (base E:Nat) (bv:Value) (t:Tr) (w:World):Prop:=∃ rv cs,Ed base E rv bv cs t w
theorem EdB.grew {base E:Nat} {bv:Value} {t:Tr} {w w':World} (h:EdB base E bv t w) (hg:Grew w w'):EdB base E bv t w':=by
 obtain⟨rv,cs,h⟩:=h
 exact⟨rv,cs,h.grew hg⟩
theorem map_set {l:List Br} {i:Nat} (hi:i<l.length) (hasc:idsAsc l) (f:Br→Br):(l.map fun b=>if b.id=l[i].id then f b else b)=l.set i (f l[i]):=by
 apply List.ext_getElem (by simp)
 intro j hj hj'
 rw[List.length_map] at hj
 rw[List.getElem_map]
 by_cases e:j=i
 ·subst e
  rw[if_pos rfl,List.getElem_set_self]
 ·rw[List.getElem_set_ne (by omega),if_neg]
  intro he
  rcases Nat.lt_or_gt_of_ne e with hlt|hlt
  ·have:=List.pairwise_iff_getElem.1 hasc j i hj hi hlt
   omega
  ·have:=List.pairwise_iff_getElem.1 hasc i j hi hj hlt
   omega
structure KAt (base E:Nat) (bv:Value) (t:Tr) (p:Int) (a:Addr) (kv:Value) (w:World):Prop where
 cell:w.cell? a=some kv
 frz:w.frozen? a=false
 lo:base≤a.block
 lt:a.block<w.heap.size
 own:OwnI base w kv (childs t p)
 off:kv.ownBlock≠some a.block
 back:∀ w1 v' ks,w.grownBy w1 kv.ownBlock→OwnI base w1 v' ks→(v'.ownBlock=kv.ownBlock∨∀ b,v'.ownBlock=some b→w.heap.size≤b)→EdB base E bv (setK t p ks) (w1.setCell a v')
section
variable {base E:Nat} {rv bv:Value} {cs:List BrC} {t:Tr} {w w':World}
theorem KAt.grew {p:Int} {a:Addr} {kv:Value} (h:KAt base E bv t p a kv w) (hg:Grew w w'):KAt base E bv t p a kv w' where
 cell:=(hg.cell h.lt).trans h.cell
 frz:=(hg.frozen h.lt).trans h.frz
 lo:=h.lo
 lt:=Nat.lt_of_lt_of_le h.lt hg.size
 own:=own_later h.own hg
 off:=h.off
 back:=fun w1 v' ks h1 h2 h3=>h.back w1 v' ks (grew_trans_grown hg h1) h2 (h3.imp_right fun k b hb=>Nat.le_trans hg.size (k b hb))
theorem Ed.kat0 (h:Ed base E rv bv cs t w):KAt base E bv t 0 ⟨E,0,none⟩ rv w where
 cell:=h.cells.1
 frz:=h.cells.2.2.1
 lo:=h.le
 lt:=(Array.getElem?_eq_some_iff.1 h.box).1
 own:=by
  unfold childs
  rw[if_pos rfl]
  exact h.roots
 off:=own_ne h.roots h.box ne_IE
 back:=fun w1 v' ks h1 h2 h3=>by
  unfold setK
  rw[if_pos rfl]
  exact⟨v',cs,h.setRoots h1 h2 h3⟩
theorem brFind_at {l:List Br} (hasc:idsAsc l) {i:Nat} (hi:i<l.length):brFind l l[i].id=some l[i]:=find_byid hasc (List.getElem_mem hi)
theorem Ed.katB (h:Ed base E rv bv cs t w) (hasc:idsAsc t.brs) {i:Nat} (hi:i<t.brs.length) (h0:t.brs[i].id≠0) {B cap:Nat} (hbv:bv=.slice (some ⟨B,0,none⟩) t.brs.length cap) :
  KAt base E bv t t.brs[i].id ⟨B,i*6+5,none⟩ (cs[i]'(by have:=h.len;omega)).kv w:=by
 have hic:i<cs.length:=by have:=h.len;omega
 obtain⟨e1,e2⟩:=h.each i hic hi
 subst hbv
 have hlt:=(h.brs.lt B rfl)
 have hk:=childs_of hasc (List.getElem_mem hi) h0
 have hcell:=h.brs.cellAt (i*6+5) (by omega)
 have hfl:=flatMap_get BrC.cells 6 (fun _=>rfl) cs i 5 hic (by omega)
 refine⟨?_,h.brs.frozenAt _,hlt.1,hlt.2,?_,fun e=>?_,fun w1 v' ks h1 h2 h3=>?_⟩
 ·rw[hcell,hfl]
  rfl
 ·rw[hk]
  exact e2
 ·exact own_off e2 h.brs ne_IB B e rfl
 ·obtain⟨B',cap',hb,he⟩:=h.poke (j:=5) (c':={ cs[i] with kv:=v' }) (b':={ t.brs[i] with kids:=ks }) (u:=v') hic hi (by omega) h1 (.inr rfl) rfl (by
   rw[e1]
   rfl) h2 h3
  injection hb with hb _ _
  injection hb with hb
  injection hb with hb _ _
  subst hb
  unfold setK
  rw[if_neg h0,map_set hi hasc]
  exact⟨rv,_,he⟩
theorem Ed.field (h:Ed base E rv bv cs t w) (hasc:idsAsc t.brs) {i j:Nat} (hi:i<t.brs.length) (hj:j<5) {B cap:Nat} (hbv:bv=.slice (some ⟨B,0,none⟩) t.brs.length cap) (f:Br→Br) (u:Value)
  (hf:∀ kv,((f t.brs[i]).c kv).cells=(t.brs[i].c kv).cells.set j u) (hk:(f t.brs[i]).kids=t.brs[i].kids):EdB base E bv (setU t t.brs[i].id f) (w.setCell ⟨B,i*6+j,none⟩ u):=by
 have hic:i<cs.length:=by have:=h.len;omega
 obtain⟨e1,e2⟩:=h.each i hic hi
 obtain⟨B',cap',hb,he⟩:=h.poke (j:=j) (w1:=w) (row:=none) (c':=(f t.brs[i]).c cs[i].kv) (b':=f t.brs[i]) (u:=u) hic hi (by omega) (World.grownBy.refl _ _) (.inl rfl) (by
  rw[hf]
  rw[← e1]) rfl (by
  show OwnI base w cs[i].kv _
  rw[hk]
  exact e2) (.inl rfl)
 rw[hbv] at hb
 injection hb with hb _ _
 injection hb with hb
 injection hb with hb _ _
 subst hb
 unfold setU
 rw[map_set hi hasc]
 exact⟨rv,_,he⟩
theorem Ed.at_ (h:Ed base E rv bv cs t w) {i:Nat} (hi:i<t.brs.length) {B cap:Nat} (hbv:bv=.slice (some ⟨B,0,none⟩) t.brs.length cap) :
  w.cell? ⟨B,i*6,none⟩=some (.int .i64 t.brs[i].id)∧w.cell? ⟨B,i*6+1,none⟩=some (.int .i64 t.brs[i].parent)∧w.cell? ⟨B,i*6+2,none⟩=some (.int .i64 t.brs[i].level)∧w.cell? ⟨B,i*6+3,none⟩=some (.string t.brs[i].title)∧w.cell? ⟨B,i*6+4,none⟩=some (.string t.brs[i].mark) ∧
   (∃ kv,w.cell? ⟨B,i*6+5,none⟩=some kv∧SlI w kv t.brs[i].kids)∧(∀ j,w.frozen? ⟨B,j,none⟩=false)∧base≤B∧B<w.heap.size:=by
 have hic:i<cs.length:=by have:=h.len;omega
 obtain⟨e1,e2⟩:=h.each i hic hi
 subst hbv
 have hlt:=(h.brs.lt B rfl)
 have key:∀ j,j<6→w.cell? ⟨B,i*6+j,none⟩=cs[i].cells[j]?:=fun j hj=>by
  rw[h.brs.cellAt (i*6+j) (by omega),flatMap_get BrC.cells 6 (fun _=>rfl) cs i j hic hj]
 rw[e1] at key
 refine⟨key 0 (by omega),key 1 (by omega),key 2 (by omega),key 3 (by omega),key 4 (by omega),⟨cs[i].kv,?_,Rd.of_own e2⟩,fun j=>h.brs.frozenAt _,hlt.1,hlt.2⟩
 have:=key 5 (by omega)
 exact this
end
end Go.Proofs.YtdochkemaiokfaaGreat
/- The editor's find, branch and kids, walked. The conditions: the units ascend, and are not too many. -/
namespace Go.Proofs.YtdochkemaiokfaaGreat
open Go.RowKit
theorem edFind1 (y:BrC) (id:Int) (w:World):Calls Tryz.prog 182 #[y.agg,.int .i64 id] w fun e w'=>e=.returned (.int .i64 (Lib.compareInt y.id id))∧Grew w w':=by
 have h1:=Tryz.cmp_Compare_int y.id id
 unfold BrC.agg
 generalize Lib.compareInt y.id id=r at h1
 have H1:=Lib.hid h1
 clear h1
 go_enter Tryz.func182,Tryz.ntmps182
 go_wp2_with fail
 refine(H1.out _).mono ?_
 rintro e w1 ⟨rfl,rfl⟩
 dsimp only
 go_wp2
 go_ret
 exact⟨rfl,(Grew.refl w).alloc _⟩
set_option maxHeartbeats 2000000 in
theorem searchE (l:List Br) (id:Int) (v:Value) (w:World) (hv:SlBr w v l) (hlen:l.length≤1000000)
  (hm:∀ i j (hi:i<l.length) (hj:j<l.length),i≤j→cmpId id l[j]<0→cmpId id l[i]<0) :
  Calls Tryz.prog 181 #[v,.int .i64 id,.func (.func 182) #[] #[]] w fun e w' =>
   e=.returned (.tuple #[.int .i64 (passes (fun y=>decide (cmpId id y<0)) l),.bool (hitB (fun y=>decide (cmpId id y=0)) l (passes (fun y=>decide (cmpId id y<0)) l))])∧Grew w w':=by
 obtain⟨A,c,rfl,hlc,hcap,hr⟩:=hv.open_
 have HR:=Lib.hid hr
 have HM:=Lib.hid hm
 have HP:=Lib.hid (passes_eq (fun y=>decide (cmpId id y<0)) l)
 clear hv hr hm hcap hlc
 generalize passes (fun y=>decide (cmpId id y<0)) l=P0 at HP ⊢
 generalize hh0:hitB (fun y=>decide (cmpId id y=0)) l P0=hb0
 have HH0:=Lib.hid hh0
 clear hh0
 go_enter Tryz.func181,Tryz.ntmps181
 go_wp2
 go_loopg [9,10] l.length (fun gg s9 s10 wr=>∃ i j:Nat,i≤j∧j≤l.length∧j-i≤gg∧s9=.int .i64 i∧s10=.int .i64 j∧Aside (Grew w wr)∧Aside (∀ t (h:t<l.length),t<i→cmpId id l[t]<0)∧Aside (∀ t (h:t<l.length),j≤t→¬ cmpId id l[t]<0))
 case atStart=>exact⟨0,l.length,by omega,by omega,by omega,rfl,rfl,(show Aside _ from Grew.refl _),(show Aside _ from fun t h ht=>by omega),(show Aside _ from fun t h ht=>by omega)⟩
 case round =>
  obtain⟨i,j,hij,hj,hgk,rfl,rfl,BW,M1,M2⟩:=hrel
  by_cases hlt:i<j
  ·have hltz:(i:Int)<(j:Int):=by omega
   have hmid:((i:Int)+(j:Int)) / 2=(((i+j) / 2:Nat):Int):=by omega
   have hk1:i≤(i+j) / 2:=by omega
   have hk2:(i+j) / 2<j:=by omega
   have hkl:(i+j) / 2<l.length:=by omega
   have hkz:(i:Int)+(j:Int)<2*(l.length:Int):=by omega
   have hkz2:((i:Int)+(j:Int)) / 2<(l.length:Int):=by omega
   have h0z:(0:Int)≤((i:Int)+(j:Int)) / 2:=by omega
   have htn:(((i:Int)+(j:Int)) / 2).toNat=(i+j) / 2:=by omega
   obtain⟨b,off,rfl,hb,hcell⟩:=HR.out (by omega)
   obtain⟨kv,hkv,hcl⟩:=hcell ((i+j) / 2) hkl
   obtain⟨c0,c1,c2,c3,c4,c5⟩:=hcl wr BW.out
   obtain⟨Az,cz,rfl,-,-,-⟩:=hkv.open_
   have HN1:RowKit.Hid (cmpId id l[(i+j) / 2]<0→∀ t (h:t<l.length),t<(i+j) / 2+1→cmpId id l[t]<0):=fun h t ht htk=>HM.out t _ ht hkl (by omega) h
   have HN2:RowKit.Hid (¬ cmpId id l[(i+j) / 2]<0→∀ t (h:t<l.length),(i+j) / 2≤t→¬ cmpId id l[t]<0):=fun h t ht htk h3=>h (HM.out _ t hkl ht htk h3)
   have HMID:=Lib.hid hmid
   clear hcell hcl hkv hmid
   unfold cmpId at HN1 HN2
   generalize l[(i+j) / 2]=y at c0 c1 c2 c3 c4 c5 HN1 HN2
   obtain⟨yi,yp,yl,yt,ym,yk⟩:=y
   dsimp only at c0 c1 c2 c3 c4 c5 HN1 HN2
   have kC:=fun W=>edFind1 ⟨yi,yp,yl,yt,ym,.slice Az yk.length cz⟩ id W
   dsimp only [BrC.agg] at kC
   generalize Lib.compareInt yi id=r at kC HN1 HN2
   have KC:=Lib.hid kC
   clear kC
   by_cases hneg:r<0
   ·have Hn:=Lib.hid (HN1.out hneg)
    go_wp2_with fail
    refine(KC.out _).mono ?_
    rintro e w1 ⟨rfl,g1⟩
    have HG1:=Lib.hid g1
    clear g1
    dsimp only
    go_wp2
    rw[HMID.out]
    go_roundg (j-((i+j) / 2+1))
    case measure=>omega
    case rel=>exact⟨(i+j) / 2+1,j,by omega,by omega,by omega,by go_num,rfl,(show Aside _ from BW.out.trans HG1.out),(show Aside _ from Hn.out),M2⟩
   ·have hneg':decide (r<0)=false:=by simpa using hneg
    have Hn:=Lib.hid (HN2.out hneg)
    go_wp2_with fail
    refine(KC.out _).mono ?_
    rintro e w1 ⟨rfl,g1⟩
    have HG1:=Lib.hid g1
    clear g1
    dsimp only
    go_wp2
    rw[HMID.out]
    go_roundg ((i+j) / 2-i)
    case measure=>omega
    case rel=>exact⟨i,(i+j) / 2,by omega,by omega,by omega,rfl,rfl,(show Aside _ from BW.out.trans HG1.out),M1,(show Aside _ from Hn.out)⟩
  ·have hltz:¬ (i:Int)<(j:Int):=by omega
   obtain rfl:i=j:=by omega
   have hP:=HP.out i hj (fun t h ht=>by simpa using M1.out t h ht) (fun t h ht=>by simpa using M2.out t h ht)
   subst hP
   by_cases hil:P0<l.length
   ·have hilz:(P0:Int)<(l.length:Int):=by omega
    have h0z:(0:Int)≤(P0:Int):=by omega
    obtain⟨b,off,rfl,hb,hcell⟩:=HR.out (by omega)
    obtain⟨kv,hkv,hcl⟩:=hcell P0 hil
    obtain⟨c0,c1,c2,c3,c4,c5⟩:=hcl wr BW.out
    obtain⟨Az,cz,rfl,-,-,-⟩:=hkv.open_
    have hh:(cmpId id l[P0] == 0)=hb0:=by
     rw[← HH0.out]
     simp only [hitB,List.getElem?_eq_getElem hil]
     rfl
    unfold cmpId at hh
    clear hcell hcl hkv
    generalize l[P0]=y at c0 c1 c2 c3 c4 c5 hh
    obtain⟨yi,yp,yl,yt,ym,yk⟩:=y
    dsimp only at c0 c1 c2 c3 c4 c5 hh
    have kC:=fun W=>edFind1 ⟨yi,yp,yl,yt,ym,.slice Az yk.length cz⟩ id W
    dsimp only [BrC.agg] at kC
    generalize Lib.compareInt yi id=r at kC hh
    have KC:=Lib.hid kC
    have HHE:=Lib.hid hh
    clear kC hh
    go_wp2_with fail
    refine(KC.out _).mono ?_
    rintro e w1 ⟨rfl,g1⟩
    have HG1:=Lib.hid g1
    clear g1
    dsimp only
    go_wp2
    go_ret2
    exact⟨ret_ib HHE.out,BW.out.trans HG1.out⟩
   ·have hilz:decide ((P0:Int)<(l.length:Int))=false:=by simp;omega
    have hh:false=hb0:=by rw[← HH0.out];simp[hitB,hil]
    have HHE:=Lib.hid hh
    clear hh
    go_wp2
    go_ret2
    exact⟨ret_ib HHE.out,BW.out⟩
theorem cmpId_asc {l:List Br} (h:idsAsc l) (id:Int):∀ i j (hi:i<l.length) (hj:j<l.length),i≤j→cmpId id l[j]<0→cmpId id l[i]<0:=by
 intro i j hi hj hij hc
 rw[cmpId_lt] at hc ⊢
 by_cases e:i=j
 ·subst e;exact hc
 ·have:=List.pairwise_iff_getElem.1 h i j hi hj (by omega)
  omega
def posF (l:List Br) (id:Int):Nat:=passes (fun y=>decide (cmpId id y<0)) l
theorem pos_at {l:List Br} (h:idsAsc l) {i:Nat} (hi:i<l.length):posF l l[i].id=i:=by
 refine passes_eq _ l i (by omega) (fun t ht htk=>?_) (fun t ht htk=>?_)
 ·have:=List.pairwise_iff_getElem.1 h t i ht hi htk
  simp only [decide_eq_true_eq,cmpId_lt]
  omega
 ·simp only [decide_eq_false_iff_not,cmpId_lt]
  by_cases e:i=t
  ·subst e;omega
  ·have:=List.pairwise_iff_getElem.1 h i t hi ht (by omega)
   omega
theorem hit_asc {l:List Br} (h:idsAsc l) (id:Int):hitB (fun y=>decide (cmpId id y=0)) l (posF l id)=(brFind l id).isSome:=by
 cases ho:brFind l id with
 | none=>exact at_none id ho _
 | some b =>
  obtain⟨k,hk,_,e⟩:=brIdx_some ho
  have hid:l[k].id=id:=by
   rw[e]
   exact(find_in ho).2
  have h1:=pos_at h hk
  rw[hid] at h1
  rw[h1]
  simp only [hitB,List.getElem?_eq_getElem hk,Option.isSome_some,decide_eq_true_eq,cmpId_eq]
  exact hid
section
variable {base E:Nat} {bv:Value} {t:Tr} {w:World}
theorem EdB.reads (h:EdB base E bv t w):∃ rv,SlI w rv t.roots∧SlBr w bv t.brs∧w.cell? ⟨E,0,none⟩=some rv∧w.cell? ⟨E,1,none⟩=some bv∧base≤E∧E<w.heap.size:=by
 obtain⟨rv,cs,h⟩:=h
 exact⟨rv,h.tree.1,h.tree.2,h.cells.1,h.cells.2.1,h.le,(Array.getElem?_eq_some_iff.1 h.box).1⟩
theorem edFind (h:EdB base E bv t w) (hasc:idsAsc t.brs) (hlen:t.brs.length≤1000000) (id:Int) :
  Calls Tryz.prog 128 #[.pointer (some ⟨E,0,none⟩),.int .i64 id] w fun e w'=>e=.returned (.tuple #[.int .i64 (posF t.brs id),.bool (brFind t.brs id).isSome])∧Grew w w':=by
 obtain⟨rv,-,hb,-,c1,-,-⟩:=h.reads
 have k:=searchE t.brs id bv w hb hlen (cmpId_asc hasc id)
 have hh:=hit_asc hasc id
 unfold posF at hh
 rw[hh] at k
 have K:=Lib.hid k
 unfold posF
 generalize (brFind t.brs id).isSome=q at K ⊢
 generalize passes (fun y=>decide (cmpId id y<0)) t.brs=n at K ⊢
 obtain⟨A,c,rfl,-,-,-⟩:=hb.open_
 clear k hh h hb
 go_enter Tryz.func128,Tryz.ntmps128
 go_wp2_with fail
 refine K.out.mono ?_
 rintro e w1 ⟨rfl,g1⟩
 dsimp only
 go_wp2
 go_ret2
 exact⟨rfl,g1⟩
theorem edBranchNo (h:EdB base E bv t w) (hasc:idsAsc t.brs) (hlen:t.brs.length≤1000000) {id:Int} (hno:brFind t.brs id=none) :
  Calls Tryz.prog 129 #[.pointer (some ⟨E,0,none⟩),.int .i64 id] w fun e w'=>e=.returned (.pointer none)∧Grew w w':=by
 have k:=edFind h hasc hlen id
 rw[hno] at k
 dsimp only [Option.isSome_none] at k
 have K:=Lib.hid k
 clear k h hno
 go_enter Tryz.func129,Tryz.ntmps129
 go_wp2_with fail
 refine K.out.mono ?_
 rintro e w1 ⟨rfl,g1⟩
 dsimp only
 go_wp2
 go_ret
 exact⟨rfl,g1⟩
theorem edBranch (h:EdB base E bv t w) (hasc:idsAsc t.brs) (hlen:t.brs.length≤1000000) {i:Nat} (hi:i<t.brs.length) {B cap:Nat} (hbv:bv=.slice (some ⟨B,0,none⟩) t.brs.length cap) :
  Calls Tryz.prog 129 #[.pointer (some ⟨E,0,none⟩),.int .i64 t.brs[i].id] w fun e w'=>e=.returned (.pointer (some ⟨B,i*6,none⟩))∧Grew w w':=by
 have k:=edFind h hasc hlen t.brs[i].id
 rw[brFind_at hasc hi,pos_at hasc hi] at k
 dsimp only [Option.isSome_some] at k
 obtain⟨rv,-,hb,-,c1,-,-⟩:=h.reads
 obtain⟨A,c,he,hlc,hcm,-⟩:=hb.open_
 rw[hbv] at he
 injection he with hA _ hc
 subst hA hc
 unfold maxLen at hcm
 rw[hbv] at c1
 have K:=Lib.hid k
 have HC:=Lib.hid c1
 have hiz:(i:Int)<(t.brs.length:Int):=by omega
 have h0z:(0:Int)≤(i:Int):=by omega
 generalize t.brs[i].id=id at K ⊢
 clear k h hb c1 hbv
 go_enter Tryz.func129,Tryz.ntmps129
 go_wp2_with fail
 refine K.out.mono ?_
 rintro e w1 ⟨rfl,g1⟩
 have c1:=keep_cell g1 HC.out
 dsimp only
 go_wp2
 go_ret
 exact⟨rfl,g1⟩
def KidsEnd (base E:Nat) (bv:Value) (t:Tr) (p:Int) (w:World) (e:Ending) (w':World):Prop:=∃ ab ao kv,e=.returned (.pointer (some ⟨ab,ao,none⟩))∧KAt base E bv t p ⟨ab,ao,none⟩ kv w'∧Grew w w'
theorem edKids (h:EdB base E bv t w) (hasc:idsAsc t.brs) (hlen:t.brs.length≤1000000) {p:Int} (hp:p=0∨∃ b∈t.brs,b.id=p) :
  Calls Tryz.prog 131 #[.pointer (some ⟨E,0,none⟩),.int .i64 p] w (KidsEnd base E bv t p w):=by
 by_cases hz:p=0
 ·subst hz
  obtain⟨rv,cs,hE⟩:=h
  have HK:=Lib.hid hE.kat0
  clear hE
  go_enter Tryz.func131,Tryz.ntmps131
  go_wp2
  go_ret
  exact⟨E,0,rv,rfl,HK.out,Grew.refl w⟩
 ·obtain⟨b,hb,e⟩:=hp.resolve_left hz
  obtain⟨i,hi,rfl⟩:=List.mem_iff_getElem.1 hb
  subst e
  obtain⟨rv,cs,hE⟩:=h
  obtain⟨B,cap,hbv,-,-,-⟩:=own_form hE.brs (by omega)
  obtain⟨kv,hkv⟩:∃ kv,KAt base E bv t t.brs[i].id ⟨B,i*6+5,none⟩ kv w:=⟨_,hE.katB hasc hi hz hbv⟩
  have HK:=Lib.hid hkv
  have K:=Lib.hid (edBranch ⟨rv,cs,hE⟩ hasc hlen hi hbv)
  have hz':(t.brs[i].id == 0)=false:=by simpa using hz
  generalize t.brs[i].id=p at K HK hz' ⊢
  clear hE hz hb hp hkv
  go_enter Tryz.func131,Tryz.ntmps131
  go_wp2_with fail
  refine K.out.mono ?_
  rintro e w1 ⟨rfl,g1⟩
  dsimp only
  go_wp2
  go_ret
  exact⟨B,i*6+5,kv,rfl,HK.out.grew g1,g1⟩
end
end Go.Proofs.YtdochkemaiokfaaGreat
/- slices.DeleteFunc at numbers, on a row of the call's own; all other blocks are as they were. No condition but that the function that is handed over answers as p does. -/
namespace Go.Proofs.YtdochkemaiokfaaGreat
open Go.RowKit
theorem grown_set (w:World) (p:Addr) (u:Value):w.grownBy (w.setCell p u) (some p.block):=⟨rfl,rfl,rfl,by simp[World.setCell],fun k _ hne=>Below.heap_setCell _ _ _ _ (fun e=>hne (by rw[e]))⟩
set_option maxHeartbeats 2000000 in
theorem deleteFuncG (l:List Int) (p:Int→Bool) (gf:Nat) (lb:Array Value) (eg:∀ args w,(callFunc gf args).run Tryz.prog w=.ok (.enter gf args) w) (base:Nat) (v:Value) (w:World) (hbase:base≤w.heap.size)
  (hown:w.ownsRow base 3 1 v l.length (l.flatMap oneI))
  (hp:∀ W x,w.grownBy W v.ownBlock→x∈l→Calls Tryz.prog gf (#[(.int .i64 x)]++lb) W fun e w'=>e=.returned (.bool (p x))∧Grew W w') :
  Calls Tryz.prog 190 #[v,.func (.func gf) #[] lb] w fun e w'=>∃ v',e=.returned v'∧w'.ownsRow base 3 1 v' (l.filter fun x=>!p x).length ((l.filter fun x=>!p x).flatMap oneI)∧v'.ownBlock=v.ownBlock∧Below base w w'∧w.grownBy w' v.ownBlock:=by
 have hix:=indexFuncI l p gf lb eg v w (Rd.of_own hown) (fun W x hW hx=>hp W x (grown_grew hW _) hx)
 by_cases hany:l.any p=true
 case neg =>
  simp only [Bool.not_eq_true] at hany
  have hid:l.filter (fun x=>!p x)=l:=List.filter_eq_self.2 (fun x hx=>by
   rw[List.any_eq_false] at hany
   simpa using hany x hx)
  have hm:idxP p l=-1:=idxP_miss p l (fun i hi=>by
   rw[List.any_eq_false] at hany
   simpa using hany l[i] (List.getElem_mem hi))
  rw[hid]
  rw[hm] at hix
  have HX:=Lib.hid hix
  have HO:=Lib.hid hown
  generalize l.flatMap oneI=cs at HO ⊢
  clear hix hown hp hid hm hany
  go_enter Tryz.func190,Tryz.ntmps190
  go_wp2_with (first|(go_at_call 226;refine HX.out.mono ?_;rintro e w1 ⟨rfl,hg⟩))
  go_ret
  exact⟨v,rfl,own_later HO.out hg,rfl,hg.below.mono hbase,grown_grew hg _⟩
 case pos =>
  obtain⟨m,hm,hpm,hbef⟩:=idxP_find p l hany
  have he:idxP p l=(m:Int):=idxP_hit p l m hm hpm hbef
  rw[he] at hix
  obtain⟨g,cap,hv,hbg,hglt,hcap⟩:=own_form hown (by omega)
  subst hv
  have hcm:cap≤maxLen:=own_max hown
  unfold maxLen at hcm
  have DI0:DelInv 1 oneI l (fun x=>!p x) (l.flatMap oneI) m (m+1):=DelInv.start (f:=oneI) (fun _=>rfl) m hm (by simp[hpm]) (fun t ht h=>by simp[hbef t ht h])
  have HX:=Lib.hid hix
  have HO:=Lib.hid hown
  have HP:=Lib.hid hp
  have HD:=Lib.hid DI0
  have hneg:((m:Int) == -1)=false:=beq_eq_false_iff_ne.2 (by omega)
  clear hix hown hp DI0 he hpm hbef hany
  go_enter Tryz.func190,Tryz.ntmps190
  go_wp2_with (first|(go_at_call 226;refine HX.out.mono ?_;rintro e w1 ⟨rfl,hg⟩))
  go_loopg [5,6] l.length (fun gg s5 s6 wr=>∃ ii jj:Nat,ii<jj∧jj≤l.length∧l.length-jj≤gg∧s5=.int .i64 ii∧s6=.int .i64 jj∧Aside (Below base w wr∧w.grownBy wr (some g))∧Aside (∃ ds,wr.ownsRow base 3 1 (.slice (some ⟨g,0,none⟩) l.length cap) l.length ds∧DelInv 1 oneI l (fun x=>!p x) ds ii jj))
  case atStart=>exact⟨m,m+1,by omega,by omega,by omega,rfl,by go_num,(show Aside _ from⟨hg.below.mono hbase,grown_grew hg _⟩),_,own_later HO.out hg,HD.out⟩
  case round =>
   obtain⟨ii,jj,hij,hjl,hgk,rfl,rfl,BW,hds⟩:=hrel
   obtain⟨ds,ho,DI0⟩:=hds.out
   have DI:=Lib.hid DI0
   clear hds DI0
   by_cases hlt:jj<l.length
   ·have hltz:(jj:Int)<(l.length:Int):=by omega
    have c0:wr.cell? ⟨g,jj,none⟩=some (.int .i64 l[jj]):=by
     have h1:=ho.cellAt (jj*1+0) (by omega)
     have h2:=DelInv.at_ (f:=oneI) DI.out (fun _=>rfl) hlt 0 (by omega)
     rw[h2] at h1
     simpa [oneI] using h1
    have hcall:=HP.out wr l[jj] BW.out.2 (List.getElem_mem hlt)
    have HOr:=Lib.hid ho
    have Hlt:=Lib.hid hlt
    generalize hy:l[jj]=y at c0 hcall
    have B:Aside (l[jj]=y):=hy
    clear hy ho
    cases hq:p y with
    | true =>
     have Hq:Aside (p y=true):=hq
     rw[hq] at hcall
     go_wp2_with (go_at_fn gf;refine hcall.mono ?_;rintro e w' ⟨rfl,hb'⟩)
     go_roundg (l.length-(jj+1))
     case measure=>omega
     case rel=>exact⟨ii,jj+1,by omega,by omega,by omega,rfl,by go_num,(show Aside _ from⟨BW.out.1.trans (hb'.below.mono (Nat.le_trans hbase BW.out.1.size)),BW.out.2.trans (grown_grew hb' _)⟩),(show Aside _ from⟨ds,own_later HOr.out hb',DI.out.skip Hlt.out (by have h:l[jj]'Hlt.out=y:=B.out;rw[h,Hq.out];rfl)⟩)⟩
    | false =>
     have Hq:Aside (p y=false):=hq
     rw[hq] at hcall
     go_wp2_with fail
     refine hcall.mono ?_
     rintro e w' ⟨rfl,hb'⟩
     have ho':=own_later HOr.out hb'
     obtain⟨u0,_,hu0⟩:=own_cell ho' ii (by omega)
     have hf0:=ho'.frozenAt ii
     have HO':=Lib.hid ho'
     clear ho'
     go_wp2
     obtain⟨ds1,hD1,hG1,hL1,hA1,hB1⟩:=own_setCells (oneI y) (ii*1) w' ds HO'.out
     go_roundg (l.length-(jj+1))
     case measure=>omega
     case rel =>
      have hyj:l[jj]'Hlt.out=y:=B.out
      have hbw:Below base w w':=BW.out.1.trans (hb'.below.mono (Nat.le_trans hbase BW.out.1.size))
      refine⟨ii+1,jj+1,by omega,by omega,by omega,by go_num,by go_num,(show Aside _ from ?_),(show Aside _ from⟨ds1,?_,?_⟩)⟩
      ·exact⟨hbw.setCell (p:=⟨g,ii,none⟩) hbg _,(BW.out.2.trans (grown_grew hb' _)).trans (grown_set _ _ _)⟩
      ·simpa [oneI,World.setCells] using hD1
      ·exact DelInv.keep (f:=oneI) DI.out (fun _=>rfl) Hlt.out (by rw[hyj,Hq.out];rfl) hL1 (by rw[hyj];exact hA1) (by rw[hyj];exact hB1)
   ·have hje:jj=l.length:=by omega
    subst hje
    have hii:¬ cap=ii:=by omega
    have hgt:(ii:Int)≤(l.length:Int):=by omega
    obtain⟨w2,ds2,hrun,ho2,hg2,ha2⟩:=run_clear_own (P:=Tryz.prog) wr 38 3 0 (.int .i64 0) 1 Tryz.underlying38 Tryz.zeroValue3 rfl (by omega) (by simp[Value.cells,Value.oneCell']) ho ii (cap-ii) hij
    have hrun':∀ ty,(Builtin.clear_ #[38] ty #[.slice (some ⟨g,ii,none⟩) (l.length-ii) (cap-ii)]).run Tryz.prog wr=.ok (.tuple #[]) w2:=fun _=>by have h:=hrun;rw[Nat.mul_one] at h;exact h
    have Ho2:=Lib.hid ho2
    have Ha2:=Lib.hid ha2
    clear ho2 ha2 hrun ho
    go_wp2
    go_ret
    obtain⟨e1,e2⟩:=DelInv.done (f:=oneI) DI.out (fun _=>rfl) Ha2.out
    have hc2:=own_cut Ho2.out ii (by omega)
    rw[e1] at hc2
    refine⟨_,rfl,?_,rfl,Below.grown BW.out.1 hg2 (Nat.le_trans hbase BW.out.1.size) (fun k hk=>by cases hk;exact hbg),BW.out.2.trans (hg2)⟩
    rw[← e2]
    exact hc2
end Go.Proofs.YtdochkemaiokfaaGreat
/- A unit that is created: the tree stays right but for its depth. No condition. -/
namespace Go.Proofs.YtdochkemaiokfaaGreat
open Go.RowKit
theorem mem_insB (b x:Br):∀ l:List Br,x∈insB b l↔x=b∨x∈l
 | []=>by simp[insB]
 | y::r=>by
  unfold insB
  split
  ·rw[List.mem_cons,mem_insB b x r,List.mem_cons]
   constructor
   ·rintro (h|h|h)
    ·exact .inr (.inl h)
    ·exact .inl h
    ·exact .inr (.inr h)
   ·rintro (h|h|h)
    ·exact .inr (.inl h)
    ·exact .inl h
    ·exact .inr (.inr h)
  ·simp
theorem len_insB (b:Br):∀ l:List Br,(insB b l).length=l.length+1
 | []=>rfl
 | y::r=>by
  unfold insB
  split
  ·simp only [List.length_cons];rw[len_insB b r]
  ·rfl
theorem asc_insB (b:Br):∀ l:List Br,idsAsc l→(∀ c∈l,c.id≠b.id)→idsAsc (insB b l)
 | [],_,_=>by simp[insB,idsAsc]
 | y::r,h,hn=>by
  have h':=List.pairwise_cons.1 h
  unfold insB
  split
  ·rename_i hy
   refine List.pairwise_cons.2 ⟨fun z hz=>?_,asc_insB b r h'.2 (fun c hc=>hn c (List.mem_cons_of_mem _ hc))⟩
   rcases (mem_insB b z r).1 hz with rfl|hz
   ·exact hy
   ·exact h'.1 z hz
  ·rename_i hy
   have hyb:=hn y (List.mem_cons_self ..)
   refine List.pairwise_cons.2 ⟨fun z hz=>?_,h⟩
   rcases List.mem_cons.1 hz with rfl|hz
   ·omega
   ·have:=h'.1 z hz;omega
theorem mem_putF {n before:Int}:∀ {ks:List Int},(before=0→(0:Int)∉ks)→(before≠0→before∈ks)→∀ x,x∈putF n before ks↔x=n∨x∈ks
 | [],_,h2,x=>by
  unfold putF
  by_cases hb:before=0
  ·simp[hb]
  ·have:=h2 hb;cases this
 | y::r,h1,h2,x=>by
  unfold putF
  split
  ·simp
  ·rename_i hy
   have ih:=mem_putF (n:=n) (before:=before) (ks:=r) (fun h hm=>h1 h (List.mem_cons_of_mem _ hm)) (fun h=>by
    rcases List.mem_cons.1 (h2 h) with e|h
    ·exact absurd e.symm hy
    ·exact h) x
   rw[List.mem_cons,ih,List.mem_cons]
   constructor
   ·rintro (h|h|h)
    ·exact .inr (.inl h)
    ·exact .inl h
    ·exact .inr (.inr h)
   ·rintro (h|h|h)
    ·exact .inr (.inl h)
    ·exact .inl h
    ·exact .inr (.inr h)
theorem nodup_putF {n before:Int}:∀ {ks:List Int},(before=0→(0:Int)∉ks)→(before≠0→before∈ks)→ks.Nodup→n∉ks→(putF n before ks).Nodup
 | [],_,_,_,_=>by unfold putF;split<;>simp
 | y::r,h1,h2,h3,h4=>by
  have h3':=List.nodup_cons.1 h3
  rw[List.mem_cons,not_or] at h4
  unfold putF
  split
  ·exact List.nodup_cons.2 ⟨by rw[List.mem_cons,not_or];exact h4,h3⟩
  ·rename_i hy
   have g1:before=0→(0:Int)∉r:=fun h hm=>h1 h (List.mem_cons_of_mem _ hm)
   have g2:before≠0→before∈r:=fun h=>by
    rcases List.mem_cons.1 (h2 h) with e|h
    ·exact absurd e.symm hy
    ·exact h
   refine List.nodup_cons.2 ⟨fun hm=>?_,nodup_putF g1 g2 h3'.2 h4.2⟩
   rcases (mem_putF g1 g2 y).1 hm with e|hm
   ·exact h4.1 e.symm
   ·exact h3'.1 hm
def StandsT (l:List Br) (parent level:Int):Prop:=(parent=0∧level=1)∨(parent≠0∧∃ p∈l,p.id=parent∧fitsF p.level level=true)
theorem core_insB {l:List Br} (h:CoreM l) (b:Br) (hl:l.length<256) (hn:∀ c∈l,c.id≠b.id) (hu:UnitOk b) (hm:∀ c∈l,b.mark.toList.isEmpty=false→c.mark.toList≠b.mark.toList) (hs:StandsT l b.parent b.level):CoreM (insB b l):=by
 have hasc:=asc_insB b l h.asc hn
 refine⟨by rw[len_insB];omega,hasc,?_,?_,?_,?_⟩
 ·intro c hc
  rcases (mem_insB b c l).1 hc with rfl|hc
  ·exact hu
  ·exact h.units c hc
 ·intro c hc d hd hne he
  rcases (mem_insB b c l).1 hc with hcb|hc1<;>rcases (mem_insB _ d l).1 hd with hdb|hd1
  ·rw[hcb,hdb]
  ·exact absurd (by rw[← hcb];exact he.symm) (hm d hd1 (by rw[← hcb];exact hne))
  ·exact absurd (by rw[← hdb];exact he) (hm c hc1 (by rw[← hdb,← he];exact hne))
  ·exact h.marks c hc1 d hd1 hne he
 ·intro c hc
  rw[placed_mem hasc]
  have hst:∀ p lv,StandsT l p lv→(p=0∧lv=1)∨(p≠0∧∃ q∈insB b l,q.id=p∧fitsF q.level lv=true):=by
   rintro p lv (h1|⟨h1,q,hq,h2,h3⟩)
   ·exact .inl h1
   ·exact .inr ⟨h1,q,(mem_insB b q l).2 (.inr hq),h2,h3⟩
  rcases (mem_insB b c l).1 hc with rfl|hc
  ·exact hst _ _ hs
  ·exact hst _ _ ((placed_mem h.asc c).1 (h.placed c hc))
 ·obtain⟨r,hr⟩:=h.rank
  have hup:∀ c:Br,StandsT l c.parent c.level→c.parent≠0→c.parent≠b.id:=by
   rintro c (⟨h1,_⟩|⟨_,q,hq,h2,_⟩) h0 e
   ·exact h0 h1
   ·exact hn q hq (by rw[h2];exact e)
  refine⟨fun x=>if x=b.id then r b.parent+1 else r x,fun c hc hp=>?_⟩
  rcases (mem_insB b c l).1 hc with rfl|hc
  ·simp only [if_true]
   rw[if_neg (hup c hs hp)]
   omega
  ·have h1:=hup c ((placed_mem h.asc c).1 (h.placed c hc)) hp
   simp only
   rw[if_neg h1,if_neg (hn c hc)]
   exact hr c hc hp
theorem childs_insB {t:Tr} (h:idsAsc t.brs) (b:Br) (hn:∀ c∈t.brs,c.id≠b.id) (hb0:b.id≠0) (q:Int):childs ⟨t.roots,insB b t.brs⟩ q=if q=b.id then b.kids else childs t q:=by
 have hasc:=asc_insB b t.brs h hn
 unfold childs
 by_cases hq:q=0
 ·subst hq
  rw[if_pos rfl,if_pos rfl,if_neg (fun e=>hb0 e.symm)]
 ·simp only [if_neg hq]
  by_cases hqb:q=b.id
  ·subst hqb
   rw[if_pos rfl,find_byid hasc ((mem_insB b b t.brs).2 (.inl rfl))]
  ·rw[if_neg hqb]
   cases hf:brFind t.brs q with
   | some c =>
    have hc:=find_in hf
    rw[(find_iff hasc q c).2 ⟨(mem_insB b c t.brs).2 (.inr hc.1),hc.2⟩]
   | none =>
    rw[(find_none q).2 (fun c hc=>by
     rcases (mem_insB b c t.brs).1 hc with rfl|hc
     ·exact fun e=>hqb e.symm
     ·exact(find_none q).1 hf c hc)]
theorem kids_insB {l:List Br} (b:Br) (ks:List Int) (p:Int) (hn:∀ c∈l,c.id≠b.id):KidsAre (insB b l) ks p↔(if b.parent=p then ks.Nodup∧∀ x,x∈ks↔x=b.id∨∃ c∈l,c.parent=p∧c.id=x else KidsAre l ks p):=by
 unfold KidsAre
 have hx:∀ x,(∃ c∈insB b l,c.parent=p∧c.id=x)↔(b.parent=p∧x=b.id)∨∃ c∈l,c.parent=p∧c.id=x:=by
  intro x
  constructor
  ·rintro ⟨c,hc,h1,h2⟩
   rcases (mem_insB b c l).1 hc with rfl|hc
   ·exact .inl ⟨h1,h2.symm⟩
   ·exact .inr ⟨c,hc,h1,h2⟩
  ·rintro (⟨h1,rfl⟩|⟨c,hc,h1,h2⟩)
   ·exact⟨b,(mem_insB b b l).2 (.inl rfl),h1,rfl⟩
   ·exact⟨c,(mem_insB b c l).2 (.inr hc),h1,h2⟩
 simp only [hx]
 by_cases hp:b.parent=p<;>simp[hp]
structure CanCreate (t:Tr) (o:Opn):Prop where
 new:∀ c∈t.brs,c.id≠o.unit
 unit:UnitOk ⟨o.unit,o.parent,o.level,o.title,o.mark,[]⟩
 stands:StandsT t.brs o.parent o.level
 before:o.before≠0→o.before∈childs t o.parent
 mark:∀ c∈t.brs,o.mark.toList.isEmpty=false→c.mark.toList≠o.mark.toList
 room:t.brs.length<256
theorem create_sound {t:Tr} {o:Opn} (h:SoundM t) (hc:CanCreate t o):SoundM (createT t o):=by
 obtain⟨hC,hK⟩:=(sound_parts t).1 h
 have hu0:o.unit≠0:=unit_pos hc.unit
 have hp:o.parent=0∨∃ b∈t.brs,b.id=o.parent:=by
  rcases hc.stands with ⟨h1,_⟩|⟨_,q,hq,h2,_⟩
  ·exact .inl h1
  ·exact .inr ⟨q,hq,h2⟩
 have hKp:=hK o.parent hp
 have h00:(0:Int)∉childs t o.parent:=fun hm=>by
  obtain⟨b,hb,_,e⟩:=(hKp.2 0).1 hm
  exact unit_pos (hC.units b hb) e
 have hun:o.unit∉childs t o.parent:=fun hm=>by
  obtain⟨b,hb,_,e⟩:=(hKp.2 o.unit).1 hm
  exact hc.new b hb e
 have hpu:o.parent≠o.unit:=fun e=>by
  rcases hp with h1|⟨b,hb,e2⟩
  ·exact hu0 (by rw[← e];exact h1)
  ·exact hc.new b hb (by rw[e2];exact e)
 have hT:=setK_core o.parent (putF o.unit o.before (childs t o.parent)) hC
 have hids:=setK_ids t o.parent (putF o.unit o.before (childs t o.parent))
 have hch:=setK_childs (t:=t) o.parent (putF o.unit o.before (childs t o.parent))
 have hkd:=setK_kids t o.parent (putF o.unit o.before (childs t o.parent))
 have hmem:∀ c∈(setK t o.parent (putF o.unit o.before (childs t o.parent))).brs,∃ d∈t.brs,core c=core d:=by
  intro c hcm
  rw[setK_brs] at hcm
  split at hcm
  ·exact⟨c,hcm,rfl⟩
  ·obtain⟨d,hd,rfl⟩:=List.mem_map.1 hcm
   exact⟨d,hd,kidG_core _ _ d⟩
 have hmem2:∀ d∈t.brs,∃ c∈(setK t o.parent (putF o.unit o.before (childs t o.parent))).brs,core c=core d:=by
  intro d hd
  rw[setK_brs]
  split
  ·exact⟨d,hd,rfl⟩
  ·exact⟨_,List.mem_map.2 ⟨d,hd,rfl⟩,kidG_core _ _ d⟩
 have hlen:(setK t o.parent (putF o.unit o.before (childs t o.parent))).brs.length=t.brs.length:=by
  rw[setK_brs]
  split
  ·rfl
  ·rw[List.length_map]
 unfold createT
 generalize setK t o.parent (putF o.unit o.before (childs t o.parent))=t1 at hT hids hch hkd hmem hmem2 hlen ⊢
 have hn1:∀ c∈t1.brs,c.id≠o.unit:=fun c hcm e=>by
  obtain⟨d,hd,he⟩:=hmem c hcm
  exact hc.new d hd (by rw[← (core_all he).1];exact e)
 rw[sound_parts]
 refine⟨core_insB hT _ (by rw[hlen];exact hc.room) hn1 hc.unit (fun c hcm hne=>?_) ?_,fun q hq=>?_⟩
 ·obtain⟨d,hd,he⟩:=hmem c hcm
  rw[(core_all he).2.2.2.2]
  exact hc.mark d hd hne
 ·rcases hc.stands with h1|⟨h1,p,hpm,h2,h3⟩
  ·exact .inl h1
  ·obtain⟨c,hcm,he⟩:=hmem2 p hpm
   exact .inr ⟨h1,c,hcm,by rw[(core_all he).1];exact h2,by rw[(core_all he).2.2.1];exact h3⟩
 ·rw[childs_insB hT.asc _ hn1 hu0,kids_insB _ _ _ hn1]
  by_cases hqu:q=o.unit
  ·rw[if_pos hqu,if_neg (by rw[hqu];exact hpu)]
   refine⟨by simp,fun x=>⟨(fun hx=>by cases hx),?_⟩⟩
   rintro ⟨c,hcm,h1,_⟩
   exfalso
   have hpl:=(placed_mem hT.asc c).1 (hT.placed c hcm)
   rcases hpl with ⟨h2,_⟩|⟨_,p,hpm,h2,_⟩
   ·exact hu0 (by rw[← hqu,← h1];exact h2)
   ·exact hn1 p hpm (by rw[h2,h1];exact hqu)
  ·rw[if_neg hqu,hch q hp]
   by_cases hqp:o.parent=q
   ·subst hqp
    rw[if_pos rfl,if_pos rfl]
    refine⟨nodup_putF (fun _=>h00) hc.before hKp.1 hun,fun x=>?_⟩
    rw[mem_putF (fun _=>h00) hc.before,← ((hkd (childs t o.parent) o.parent).2 hKp).2 x]
   ·rw[if_neg hqp,if_neg (fun e=>hqp e.symm)]
    refine(hkd _ _).2 (hK q ?_)
    rcases hq with h1|⟨b,hb,e⟩
    ·exact .inl h1
    ·rcases (mem_insB _ b t1.brs).1 hb with rfl|hb
     ·exact absurd e.symm hqu
     ·exact .inr ((hids q).1 ⟨b,hb,e⟩)
end Go.Proofs.YtdochkemaiokfaaGreat
/- The editor's put and take, walked. The conditions: the units ascend; the lists are short. -/
namespace Go.Proofs.YtdochkemaiokfaaGreat
open Go.RowKit
theorem putF_idx (n before:Int):∀(ks:List Int),(before=0→(0:Int)∉ks)→(before≠0→before∈ks)→∃ k,k≤ks.length∧putF n before ks=ks.take k++[n]++ks.drop k∧((idxP (fun y=>before == y) ks=(k:Int))∨(idxP (fun y=>before == y) ks=-1∧k=ks.length)):=by
 intro ks h1 h2
 by_cases h0:before=0
 ·subst h0
  refine⟨ks.length,Nat.le_refl _,?_,.inr ⟨idxP_miss _ _ (fun i hi=>?_),rfl⟩⟩
  ·rw[List.take_length,List.drop_length,List.append_nil]
   have:=h1 rfl
   clear h1 h2
   induction ks with
   | nil=>rfl
   | cons x r ih =>
    have hx:x≠0:=fun e=>this (by rw[e];simp)
    unfold putF
    rw[if_neg hx,ih (fun hm=>this (List.mem_cons_of_mem _ hm))]
    rfl
  ·have hm:=List.getElem_mem hi
   simp only [beq_eq_false_iff_ne]
   exact fun e=>h1 rfl (by rw[e];exact hm)
 ·have hm:=h2 h0
  clear h1 h2
  have key:∀ ks:List Int,before∈ks→∃ k,∃ hk:k<ks.length,ks[k]=before∧(∀ i (hi:i<ks.length),i<k→ks[i]≠before)∧putF n before ks=ks.take k++[n]++ks.drop k:=by
   intro ks
   induction ks with
   | nil=>intro h;cases h
   | cons x r ih =>
    intro h
    by_cases hx:x=before
    ·refine⟨0,by simp,by simpa using hx,fun i _ hi=>absurd hi (Nat.not_lt_zero _),?_⟩
     unfold putF
     rw[if_pos hx]
     rfl
    ·have hr:before∈r:=by
      rcases List.mem_cons.1 h with e|h
      ·exact absurd e.symm hx
      ·exact h
     obtain⟨k,hk,e1,e2,e3⟩:=ih hr
     refine⟨k+1,Nat.succ_lt_succ hk,by simpa using e1,fun i hi hik=>?_,?_⟩
     ·cases i with
      | zero=>exact hx
      | succ i=>exact e2 i (Nat.lt_of_succ_lt_succ hi) (by omega)
     ·unfold putF
      rw[if_neg hx,e3]
      rfl
  obtain⟨k,hk,e1,e2,e3⟩:=key ks hm
  refine⟨k,by omega,e3,.inl (idxP_hit _ _ k hk (by rw[e1];simp) (fun i hi hik=>?_))⟩
  simp only [beq_eq_false_iff_ne]
  exact fun e=>e2 i hi hik e.symm
section
variable {w0:World} {E:Nat} {bv:Value} {t:Tr} {w:World}
theorem putDone {w1 w3:World} {p:Int} {ab ao:Nat} {kv v3:Value} {L:List Int} {n:Int} {k:Nat} {R:Tr} (h:KAt w0.heap.size E bv t p ⟨ab,ao,none⟩ kv w1) (hR:setK t p (L.take k++[n]++L.drop k)=R) (hG:Grew w0 w1) (own:w3.ownsRow w0.heap.size 3 1 v3 (L.length+1) ((L.take k++[n]++L.drop k).flatMap oneI))
  (hg:(w1.alloc (.cells #[.int .i64 n] 3)).grownBy w3 kv.ownBlock) (hat:v3.ownBlock=kv.ownBlock∨∀ b,v3.ownBlock=some b→(w1.alloc (.cells #[.int .i64 n] 3)).heap.size≤b):EdB w0.heap.size E bv R (w3.setCell ⟨ab,ao,none⟩ v3)∧Grew w0 (w3.setCell ⟨ab,ao,none⟩ v3):=by
 have hgr:=(World.grownBy_alloc w1 (.cells #[.int .i64 n] 3) kv.ownBlock).trans hg
 have hl:(L.take k++[n]++L.drop k).length=L.length+1:=by
  simp only [List.length_append,List.length_take,List.length_drop,List.length_cons,List.length_nil]
  omega
 refine⟨?_,?_⟩
 ·rw[← hR]
  refine h.back w3 v3 _ hgr ?_ (hat.imp_right fun hb b e=>by have:=hb b e;simp at this;omega)
  unfold OwnI
  rw[hl]
  exact own
 ·exact(Below.grown hG hgr hG.size (fun b e=>(h.own.lt b e).1)).setCell (p:=⟨ab,ao,none⟩) h.lo v3
set_option maxHeartbeats 4000000 in
theorem edPut (h:EdB w0.heap.size E bv t w) (hG:Grew w0 w) (hasc:idsAsc t.brs) (hlen:t.brs.length≤1000000) {p:Int} (hp:p=0∨∃ b∈t.brs,b.id=p) (n before:Int) (h1:before=0→(0:Int)∉childs t p) (h2:before≠0→before∈childs t p) (hkl:(childs t p).length≤1000000) :
  Calls Tryz.prog 134 #[.pointer (some ⟨E,0,none⟩),.int .i64 n,.int .i64 p,.int .i64 before] w fun e w'=>e=.returned (.tuple #[])∧EdB w0.heap.size E bv (setK t p (putF n before (childs t p))) w'∧Grew w0 w':=by
 have K:=Lib.hid (edKids h hasc hlen hp)
 obtain⟨k,hk,hput,hidx⟩:=putF_idx n before (childs t p) h1 h2
 have HL2:=Lib.hid hput
 have HKL:=Lib.hid hkl
 have HG:=Lib.hid hG
 clear h hG hasc hlen hp h1 h2 hput hkl
 go_enter Tryz.func134,Tryz.ntmps134
 go_wp2_with fail
 refine K.out.mono ?_
 rintro e w1 ⟨ab,ao,kv,rfl,hkat,g1⟩
 have c1:=hkat.cell
 have HKAT:=Lib.hid hkat
 have HG1:=Lib.hid (HG.out.trans g1)
 have hix:=indexI (childs t p) before kv w1 (Rd.of_own hkat.own)
 have hins:=fun(hi:k≤(childs t p).length)=>insertI w0 (childs t p) n k w1.heap.size kv (w1.alloc (.cells #[.int .i64 n] 3)) (hkat.own.alloc _) (HG1.out.alloc _) hi HKL.out (World.alloc_heap_new w1 _) (fun e=>by
  have:=(hkat.own.lt _ e.symm).2
  omega)
 have hbk:=fun w2 v' ks' h1 h2 h3=>hkat.back w2 v' ks' h1 h2 h3
 obtain⟨Ak,ck,rfl⟩:=own_slice hkat.own
 have HIX:=Lib.hid hix
 have HINS:=Lib.hid (hins hk)
 clear g1 hkat hix hins hbk
 have hlz:(0:Int)≤((childs t p).length:Int):=by omega
 have hkz:(0:Int)≤(k:Int):=by omega
 generalize hR:setK t p (putF n before (childs t p))=R at ⊢
 have HR:=Lib.hid hR
 clear hR
 generalize hL:childs t p=L at HKAT HIX HINS HKL hk hidx c1 hlz HL2
 rcases hidx with hidx|⟨hidx,hke⟩
 ·rw[hidx] at HIX
  have hkn:¬ (k:Int)<0:=by omega
  dsimp only
  go_wp2_with fail
  refine HIX.out.mono ?_
  rintro e w2 ⟨rfl,rfl⟩
  dsimp only
  go_wp2_with fail
  refine HINS.out.mono ?_
  rintro e w3 ⟨v3,rfl,own3,hgr3,hat3⟩
  obtain⟨A3,d3,rfl⟩:=own_slice own3
  have HFIN:=Lib.hid (putDone (R:=R) HKAT.out (by rw[← HR.out,hL,HL2.out]) HG1.out own3 hgr3 hat3)
  have hgr:=(World.grownBy_alloc w1 (.cells #[.int .i64 n] 3) (Value.ownBlock (.slice Ak L.length ck))).trans hgr3
  have c3:=hgr.cell c1 (fun e=>HKAT.out.off e.symm)
  have f3:=(World.frozen?_of_block (a:=⟨ab,ao,none⟩) (hgr.block ab HKAT.out.lt (fun e=>HKAT.out.off e.symm))).trans HKAT.out.frz
  clear own3 hgr3 hat3 hgr
  dsimp only
  go_wp2
  go_end0
  exact⟨rfl,by rw[HR.out];exact HFIN.out⟩
 ·rw[hidx] at HIX
  subst hke
  dsimp only
  go_wp2_with fail
  refine HIX.out.mono ?_
  rintro e w2 ⟨rfl,rfl⟩
  dsimp only
  go_wp2_with fail
  refine HINS.out.mono ?_
  rintro e w3 ⟨v3,rfl,own3,hgr3,hat3⟩
  obtain⟨A3,d3,rfl⟩:=own_slice own3
  have HFIN:=Lib.hid (putDone (R:=R) HKAT.out (by rw[← HR.out,hL,HL2.out]) HG1.out own3 hgr3 hat3)
  have hgr:=(World.grownBy_alloc w1 (.cells #[.int .i64 n] 3) (Value.ownBlock (.slice Ak L.length ck))).trans hgr3
  have c3:=hgr.cell c1 (fun e=>HKAT.out.off e.symm)
  have f3:=(World.frozen?_of_block (a:=⟨ab,ao,none⟩) (hgr.block ab HKAT.out.lt (fun e=>HKAT.out.off e.symm))).trans HKAT.out.frz
  clear own3 hgr3 hat3 hgr
  dsimp only
  go_wp2
  go_end0
  exact⟨rfl,by rw[HR.out];exact HFIN.out⟩
end
end Go.Proofs.YtdochkemaiokfaaGreat