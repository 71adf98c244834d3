/- Lemmas on what the functions of the program and of the library compute: Es7b, PlainCm, SetI, H2, T11, RT2, PlainBu, PlainBw, RT4. The conditions stand at each. -/
import Derived.Test.YtdochkemaiokfaaGreatQ13
import Derived.Test.YtdochkemaiokfaaGreatQ5
import Derived.Test.YtdochkemaiokfaaGreatQ3
import Derived.Maps.RangeWalk
import Derived.Maps.OwnSet
import Derived.Test.YtdochkemaiokfaaGreatQ2
import Derived.Test.YtdochkemaiokfaaGreatQ4
import Derived.Sort.OwnSorted
import Derived.Maps.AppendAt
import Derived.Test.YtdochkemaiokfaaGreatQ8
import Derived.Test.YtdochkemaiokfaaGreatT7Q
import Derived.Deep.RegionHeld3
import Derived.Deep.DeepCutAuto
import Derived.Lib.SlicesCompact
import Derived.RangeFuncBox
import Derived.RangeFuncLeaves
import Derived.OwnWalkIn
import Derived.TacticsInMore
import Derived.LoopNIn
import Derived.LoopIn
import Derived.Test.YtdochkemaiokfaaGreatProg
import Derived.Test.YtdochkemaiokfaaGreatQ1
import Derived.RangeFuncCalls
import Derived.Test.YtdochkemaiokfaaGreatQ11
import Derived.Test.YtdochkemaiokfaaGreatQ9
import Derived.Deep.AppendLies
/- The steps of the editor's create: the new branch is inserted; its parent gets a child; the depth is looked at. The conditions: the tree is right but for its depth; the library's own variables hold what they must. -/
namespace Go.Proofs.YtdochkemaiokfaaGreat
open Go.RowKit
section
variable {w0:World} {E:Nat} {bv:Value} {t:Tr} {o:Opn}
theorem createIns {W0:World} (hS:SoundM t) (h:EdB w0.heap.size E bv t W0) (hG:Grew w0 W0) (W:World) (hW:Grew W0 W) (hv:W.heap[W0.heap.size]? = some (.cells ((newBr o).c (.slice none 0 0)).cells.toArray 66 (0,0))) :
  Calls Tryz.prog 133 #[bv,.int .i64 (posF t.brs o.unit),.slice (some ⟨W0.heap.size,0,none⟩) 1 1] W fun e w7=>∃ A7 n7 c7,e=.returned (.slice A7 n7 c7)∧(∃ bv',EdB w0.heap.size E bv' ⟨t.roots,insB (newBr o) t.brs⟩ (w7.setCell ⟨E,1,none⟩ (.slice A7 n7 c7)))∧Grew w0 (w7.setCell ⟨E,1,none⟩ (.slice A7 n7 c7))∧w7.frozen? ⟨E,1,none⟩=false∧w7.cell? ⟨E,1,none⟩=some bv∧∀ p x,W.cell? p=some x→some p.block≠bv.ownBlock→w7.cell? p=some x:=by
 obtain⟨rv,cs,hE⟩:=h
 have hT:=tok_of hS
 have hlen:=hE.len
 have hpl:=pos_le t.brs o.unit
 have hEW:=hE.grew hW
 refine(insertB w0 cs ((newBr o).c (.slice none 0 0)) (posF t.brs o.unit) W0.heap.size bv W (by rw[hlen];exact hEW.brs) (hG.trans hW) hE.one rfl (by omega) (by rw[hlen];exact hT.len) hv (fun e=>by have:=(hE.brs.lt _ e.symm).2;omega)).mono ?_
 rintro e w7 ⟨v7,rfl,own7,hgr7,-⟩
 obtain⟨A7,c7,rfl⟩:=own_slice own7
 obtain⟨h1,h2,h3,h4⟩:=insertDone (t1:=⟨t.roots,insB (newBr o) t.brs⟩) hEW (by omega) rfl (by rw[insB_at (newBr o) t.brs];rfl) (hG.trans hW) hgr7 own7
 exact⟨A7,_,c7,rfl,h1,h2,h3,h4,fun p x hp hne=>hgr7.cell hp hne⟩
theorem createPut {bv':Value} {W:World} (hS:SoundM t) (hc:CanCreate t o) (h8:EdB w0.heap.size E bv' ⟨t.roots,insB (newBr o) t.brs⟩ W) (hG8:Grew w0 W) :
  Calls Tryz.prog 134 #[.pointer (some ⟨E,0,none⟩),.int .i64 o.unit,.int .i64 o.parent,.int .i64 o.before] W fun e w'=>e=.returned (.tuple #[])∧EdB w0.heap.size E bv' (createT t o) w'∧Grew w0 w':=by
 obtain⟨c1,c2,-⟩:=create_childs hS hc
 obtain⟨p1,p2⟩:=create_put hS hc
 have hT:=tok_of hS
 have hl:(insB (newBr o) t.brs).length≤1000000:=by
  have:=hc.room
  rw[len_insB]
  omega
 have:=edPut h8 hG8 (create_asc hS hc) hl (p:=o.parent) c2 o.unit o.before (by rw[c1];exact p1) (by rw[c1];exact p2) (by rw[c1];exact hT.kids _)
 rw[create_eq hS hc] at this
 exact this
open Classical in
theorem createLimit {bv':Value} {W:World} (hS:SoundM t) (hc:CanCreate t o) (h9:EdB w0.heap.size E bv' (createT t o) W) (hEnv:Env W) :
  Calls Tryz.prog 135 #[.pointer (some ⟨E,0,none⟩)] W fun e w'=>e=.returned (.int .i64 (if RightT (createT t o) then 0 else 15))∧Grew W w':=edLimit h9 (tok_of (create_sound hS hc)) hEnv
end
end Go.Proofs.YtdochkemaiokfaaGreat
/- Moving a unit, step by step, plainly. No condition. -/
namespace Go.Proofs.YtdochkemaiokfaaGreat
open Go.RowKit
def takeM (t:Tr) (u:Br):Tr:=setK t u.parent (withoutF u.id (childs t u.parent))
def nameM (t:Tr) (u:Br) (p:Int):Tr:=setU (takeM t u) u.id fun b=>{ b with parent:=p }
theorem setU_childs (t:Tr) (n p q:Int):childs (setU t n fun b=>{ b with parent:=p }) q=childs t q:=by
 unfold childs
 by_cases h0:q=0
 ·rw[if_pos h0,if_pos h0]
  rfl
 ·rw[if_neg h0,if_neg h0]
  have e:brFind (setU t n fun b=>{ b with parent:=p }).brs q=(brFind t.brs q).map fun b=>if b.id=n then { b with parent:=p } else b:=find_map _ (fun b=>by split<;>rfl) q
  rw[e]
  cases brFind t.brs q with
  | none=>rfl
  | some b =>
   show(if b.id=n then { b with parent:=p } else b).kids=b.kids
   split<;>rfl
theorem setU_setK (t:Tr) (n p q:Int) (ks:List Int):setK (setU t n fun b=>{ b with parent:=p }) q ks=setU (setK t q ks) n fun b=>{ b with parent:=p }:=by
 by_cases h0:q=0
 ·unfold setK setU
  rw[if_pos h0,if_pos h0]
 ·unfold setK setU
  rw[if_neg h0,if_neg h0]
  show Tr.mk _ _=Tr.mk _ _
  rw[List.map_map,List.map_map]
  congr 1
  refine List.map_congr_left fun b _=>?_
  obtain⟨i,pa,lv,ti,mk,kd⟩:=b
  dsimp only [Function.comp_apply]
  by_cases h1:i=n
  ·subst h1
   by_cases h2:i=q
   ·subst h2
    simp
   ·simp[h2]
  ·by_cases h2:i=q
   ·subst h2
    simp[h1]
   ·simp[h1,h2]
section
variable {t:Tr} {o:Opn} {u:Br}
theorem move_ids (q:Int):(∃ b∈(nameM t u o.parent).brs,b.id=q)↔∃ b∈t.brs,b.id=q:=by
 rw[← setK_ids t u.parent (withoutF u.id (childs t u.parent)) q]
 unfold nameM setU takeM
 constructor
 ·rintro ⟨b,hb,e⟩
  obtain⟨c,hm,rfl⟩:=List.mem_map.1 hb
  refine⟨c,hm,?_⟩
  rw[← e]
  split<;>rfl
 ·rintro ⟨b,hb,e⟩
  refine⟨_,List.mem_map.2 ⟨b,hb,rfl⟩,?_⟩
  rw[← e]
  split<;>rfl
theorem move_eq (hc:CanMove t o u):setK (nameM t u o.parent) o.parent (putF o.unit o.before (childs (nameM t u o.parent) o.parent))=moveT t o u:=by
 unfold nameM moveT takeM
 rw[setU_setK,setU_childs,hc.id]
theorem move_asc (h:SoundM t):idsAsc (nameM t u o.parent).brs:=by
 have h1:idsAsc (takeM t u).brs:=by
  unfold takeM
  rw[setK_brs]
  split
  ·exact h.asc
  ·exact List.Pairwise.map _ (fun a b hab=>by unfold kidG;(repeat' split)<;>exact hab) h.asc
 exact List.Pairwise.map _ (fun a b hab=>by (repeat' split)<;>exact hab) h1
theorem move_len:(nameM t u o.parent).brs.length=t.brs.length:=by
 unfold nameM setU takeM
 rw[List.length_map,setK_brs]
 split
 ·rfl
 ·rw[List.length_map]
theorem move_put (h:SoundM t) (hc:CanMove t o u) (hp:u.parent=0∨∃ b∈t.brs,b.id=u.parent) :
  (o.before=0→(0:Int)∉childs (nameM t u o.parent) o.parent)∧(o.before≠0→o.before∈childs (nameM t u o.parent) o.parent)∧(childs (nameM t u o.parent) o.parent).length≤1000000:=by
 have hT:=tok_of h
 unfold nameM
 rw[setU_childs]
 unfold takeM
 rw[setK_childs _ _ _ hp]
 have h0:(0:Int)∉childs t o.parent:=fun hm=>by
  obtain⟨b,hb,_,e⟩:=(childs_mem h (stands_there hc.stands)).1 hm
  exact unit_pos (h.units b hb) e
 by_cases he:o.parent=u.parent
 ·rw[if_pos he,← he,hc.id]
  refine⟨fun _ hm=>h0 (List.mem_filter.1 hm).1,hc.before,Nat.le_trans (List.length_filter_le _ _) (hT.kids _)⟩
 ·rw[if_neg he]
  exact⟨fun _=>h0,fun hb=>(List.mem_filter.1 (hc.before hb)).1,hT.kids _⟩
end
open Classical in
noncomputable def resM (t:Tr) (o:Opn) (u:Br):Int:=if faultM t o≠0 then faultM t o else if RightT (moveT t o u) then 0 else 15
open Classical in
theorem resM_of {t:Tr} {o:Opn} {u:Br} {n:Int} (h:faultM t o=n) (hn:n≠0):resM t o u=n:=by
 unfold resM
 rw[h,if_pos hn]
theorem resM_2 {t:Tr} {o:Opn} {u:Br} (h:brFind t.brs o.unit=some u) (h2:o.parent≠0∧(brFind t.brs o.parent).isSome=false):resM t o u=7 :=
 resM_of (by unfold faultM;rw[h];simp only [];rw[if_pos h2]) (by decide)
theorem resM_3 {t:Tr} {o:Opn} {u:Br} (h:brFind t.brs o.unit=some u) (h2:¬ (o.parent≠0∧(brFind t.brs o.parent).isSome=false)) (h3:o.parent∈belowT t o.unit):resM t o u=17 :=
 resM_of (by unfold faultM;rw[h];simp only [];rw[if_neg h2,if_pos h3]) (by decide)
theorem resM_4 {t:Tr} {o:Opn} {u:Br} (h:brFind t.brs o.unit=some u) (h2:¬ (o.parent≠0∧(brFind t.brs o.parent).isSome=false)) (h3:o.parent∉belowT t o.unit) (h4:standsB t o.parent u.level=false):resM t o u=18 :=
 resM_of (by unfold faultM;rw[h];simp only [];rw[if_neg h2,if_neg h3,if_pos h4]) (by decide)
theorem resM_5 {t:Tr} {o:Opn} {u:Br} (h:brFind t.brs o.unit=some u) (h2:¬ (o.parent≠0∧(brFind t.brs o.parent).isSome=false)) (h3:o.parent∉belowT t o.unit) (h4:standsB t o.parent u.level=true) (h5:o.before≠0∧(o.before=o.unit∨o.before∉childs t o.parent)):resM t o u=7 :=
 resM_of (by unfold faultM;rw[h];simp only [];rw[if_neg h2,if_neg h3,if_neg (by simp[h4]),if_pos h5]) (by decide)
open Classical in
theorem resM_6 {t:Tr} {o:Opn} {u:Br} (h:brFind t.brs o.unit=some u) (h2:¬ (o.parent≠0∧(brFind t.brs o.parent).isSome=false)) (h3:o.parent∉belowT t o.unit) (h4:standsB t o.parent u.level=true) (h5:¬ (o.before≠0∧(o.before=o.unit∨o.before∉childs t o.parent))):faultM t o=0∧resM t o u=if RightT (moveT t o u) then 0 else 15:=by
 have e:faultM t o=0:=by unfold faultM;rw[h];simp only [];rw[if_neg h2,if_neg h3,if_neg (by simp[h4]),if_neg h5]
 refine⟨e,?_⟩
 unfold resM
 rw[e,if_neg (fun h=>h rfl)]
end Go.Proofs.YtdochkemaiokfaaGreat
/- A set of numbers that is kept in a map: what it has, and what a range over it collects. No condition. -/
namespace Go.Proofs.YtdochkemaiokfaaGreat
open Go.RowKit Go.Maps
def setInts (ks:List Int):DataW Unit:=setOf (.lit (.bool true)) (ks.map fun n=>.int .i64 n)
theorem has_setInts (ks:List Int) (n:Int):has (setInts ks) (.int .i64 n)=true↔n∈ks:=by
 unfold setInts
 rw[has_setOf _ _ _ (fun x hx=>by
  obtain⟨m,_,rfl⟩:=List.mem_map.1 hx
  trivial),List.any_eq_true]
 constructor
 ·rintro ⟨x,hx,hs⟩
  obtain⟨m,hm,rfl⟩:=List.mem_map.1 hx
  simp[Lit.sameKey] at hs
  exact hs▸hm
 ·intro h
  exact⟨_,List.mem_map.2 ⟨n,h,rfl⟩,by simp[Lit.sameKey]⟩
def CollI (D0:DataW Unit) (left:Lit→Bool) (ks:List Int):Prop:=ks.Nodup∧∀ x,x∈ks↔(has D0 (.int .i64 x)=true∧left (.int .i64 x)=false)
theorem CollI.start (D0:DataW Unit):CollI D0 (has D0) []:=⟨List.nodup_nil,fun x=>by cases has D0 (.int .i64 x)<;>simp⟩
theorem CollI.step {D0:DataW Unit} {left:Lit→Bool} {ks:List Int} (h:CollI D0 left ks) {x:Int} {y:DataW Unit} (hlk:left (.int .i64 x)=true) (hat:∀ zd,D0.atKey (.int .i64 x) zd=y):CollI D0 (fun z=>left z && !z.sameKey (.int .i64 x)) (ks++[x]):=by
 have hhas:has D0 (.int .i64 x)=true:=has_true_of_atKey hat
 have hnew:x∉ks:=fun hx=>by have:=((h.2 x).1 hx).2;rw[hlk] at this;cases this
 refine⟨List.nodup_append.2 ⟨h.1,by simp,fun a ha b hb=>by simp at hb;subst hb;exact fun e=>hnew (e▸ha)⟩,fun y=>?_⟩
 by_cases hy:y=x
 ·subst hy;simp[hhas,Lit.sameKey]
 ·simp[h.2 y,hy,Lit.sameKey]
theorem CollI.done {ks0:List Int} {left:Lit→Bool} {ks:List Int} (h:CollI (setInts ks0) left ks) (hl:∀ kl,left kl=false):ks.Nodup∧∀ n,n∈ks↔n∈ks0 :=
 ⟨h.1,fun n=>by rw[h.2 n,has_setInts];simp[hl]⟩
theorem row_ne_map {P:Program} {k:TypeId} {R:Value→Option (DataW Unit × List MemPlace)} {w:World} {b n:Nat} {D:DataW Unit} {base:Nat} {e:TypeId} {size:Nat} {v:Value} {m:Nat} {xs:List Value}
  (h:w.ownsRow base e size v m xs) (hm:w.ownsMap P k R b n D):some b≠v.ownBlock:=by
 obtain⟨es,clock,hit,_⟩:=hm
 rcases h.2 with ⟨rfl,_⟩|⟨g,cap,cur,rfl,_,hb,_⟩
 ·simp[Value.ownBlock]
 ·intro e1
  have:b=g:=by simpa [Value.ownBlock] using e1
  subst this
  rw[hit] at hb
  cases hb
end Go.Proofs.YtdochkemaiokfaaGreat
/- relation.holders, walked. The conditions: the authorities are numbers of an int; the list is short. -/
namespace Go.Proofs.YtdochkemaiokfaaGreat
open Go.RowKit Go.Maps
theorem grew_turned {w0 w w':World} {b:Nat} (h:Grew w0 w) (g:w.grownBy w' (some b)) (hb:w0.heap.size≤b):Grew w0 w':=Below.grown h g h.size (fun k hk=>by cases hk;exact hb)
end Go.Proofs.YtdochkemaiokfaaGreat
/- tree.path on a right tree, walked. The condition: the lists are short. -/
namespace Go.Proofs.YtdochkemaiokfaaGreat
open Go.RowKit
theorem find_mem {l:List Br} {id:Int} {b:Br} (h:brFind l id=some b):b∈l∧b.id=id:=by
 refine⟨List.mem_of_find?_eq_some h,?_⟩
 have:=List.find?_some h
 simpa using this
def Way (l:List Br) (rest:List Int) (z:Int):Prop:=(rest=[]∧z=0)∨∃ y n,y∈l∧z=y.id∧rest=upIds l n y∧(deep l n y).isSome=true
theorem Way.step {l:List Br} (hP:∀ i (h:i<l.length),BrPlaced l l[i]) {y:Br} {n:Nat} (hy:y∈l) (hd:(deep l n y).isSome=true):∃ rest,upIds l n y=y.id::rest∧Way l rest y.parent:=by
 by_cases h0:y.parent=0
 ·exact⟨[],upIds_top l n y h0,.inl ⟨rfl,h0⟩⟩
 ·cases n with
  | zero=>rw[deep_cycle l y h0] at hd;cases hd
  | succ n =>
   obtain⟨j,hj,rfl⟩:=List.mem_iff_getElem.1 hy
   have:=hP j hj
   unfold BrPlaced at this
   rw[if_neg h0] at this
   obtain⟨p,hp,_⟩:=this
   obtain⟨hpm,hpi⟩:=find_mem hp
   refine⟨upIds l n p,upIds_up l n _ p h0 hp,.inr ⟨p,n,hpm,hpi.symm,rfl,?_⟩⟩
   rw[deep_up l n _ p h0 hp] at hd
   simpa using hd
end Go.Proofs.YtdochkemaiokfaaGreat
/- The reference's Children, under and Below of a tree, walked. The conditions: the lists are short. -/
namespace Go.Proofs.YtdochkemaiokfaaGreat
open Go.RowKit
def RetList (r:List Int) (w:World) (e:Ending) (w':World):Prop:=∃ v,e=.returned v∧SlI w' v r∧Grew w w'∧Fresh w.heap.size v
end Go.Proofs.YtdochkemaiokfaaGreat
/- A right tree is built from nothing by creating its units, plainly. No condition. -/
namespace Go.Proofs.YtdochkemaiokfaaGreat
open Go.RowKit
def parOf (t:Tr) (x:Int):Int:=match brFind t.brs x with
 | none=>-1
 | some b=>b.parent
def filt (t:Tr) (S:List Int) (p:Int):List Int:=S.filter fun x=>parOf t x == p
theorem flatMap_one {g:Int→List Int}:∀ {L:List Int},L.Nodup→∀ {k:Int},k∈L→(∀ j∈L,j≠k→g j=[])→L.flatMap g=g k
 | [],_,k,hk,_=>absurd hk List.not_mem_nil
 | x::r,hn,k,hk,h=>by
  have hn':=List.nodup_cons.1 hn
  rw[List.flatMap_cons]
  rcases List.mem_cons.1 hk with e|hk'
  ·subst e
   have:r.flatMap g=[]:=by
    rw[List.flatMap_eq_nil_iff]
    exact fun j hj=>h j (List.mem_cons_of_mem _ hj) (fun e=>hn'.1 (e▸hj))
   rw[this,List.append_nil]
  ·rw[h x (List.mem_cons_self ..) (fun e=>hn'.1 (e▸hk')),List.nil_append]
   exact flatMap_one hn'.2 hk' fun j hj hne=>h j (List.mem_cons_of_mem _ hj) hne
theorem flatMap_self {g:Int→List Int}:∀ {L:List Int},(∀ j∈L,g j=[j])→L.flatMap g=L
 | [],_=>rfl
 | x::r,h=>by
  rw[List.flatMap_cons,h x (List.mem_cons_self ..),flatMap_self fun j hj=>h j (List.mem_cons_of_mem _ hj)]
  rfl
theorem parOf_in {t:Tr} (h:idsAsc t.brs) {b:Br} (hb:b∈t.brs):parOf t b.id=b.parent:=by
 unfold parOf
 rw[find_byid h hb]
theorem filt_flat (t:Tr) (L:List Int) (g:Int→List Int) (p:Int):filt t (L.flatMap g) p=L.flatMap fun k=>filt t (g k) p:=by
 unfold filt
 rw[List.filter_flatMap]
theorem filt_app (t:Tr) (S T:List Int) (p:Int):filt t (S++T) p=filt t S p++filt t T p:=by
 unfold filt
 rw[List.filter_append]
theorem under_two {l:List Br} (h:idsAsc l) {a b x:Int} (ha:UnderT l a x) (hb:UnderT l b x):UnderT l a b∨UnderT l b a:=by
 induction ha with
 | self=>exact .inr hb
 | @step c hc hp hu ih =>
  by_cases e:c.id=b
  ·exact .inl (by rw[← e];exact UnderT.step hc hp hu)
  ·exact ih (under_parent h hc e hb).2
theorem under_one {t:Tr} (h:SoundM t) {n x:Int} {b c:Br} (hb:b∈t.brs) (hc:c∈t.brs) (hbp:b.parent=n) (hcp:c.parent=n) (h1:UnderT t.brs b.id x) (h2:UnderT t.brs c.id x):b.id=c.id:=by
 obtain⟨r,hr⟩:=h.rank
 have key:∀ {b c:Br},b∈t.brs→c∈t.brs→b.parent=n→c.parent=n→UnderT t.brs b.id c.id→b.id=c.id:=by
  intro b c hb hc hbp hcp hu
  refine Classical.byContradiction fun hne=>?_
  obtain⟨h3,h4⟩:=under_parent h.asc hc (fun e=>hne e.symm) hu
  have h5:=under_rank hr h4
  have h6:=hr b hb (by rw[hbp,← hcp];exact h3)
  rw[hcp] at h5
  rw[hbp] at h6
  omega
 rcases under_two h.asc h1 h2 with hu|hu
 ·exact key hb hc hbp hcp hu
 ·exact(key hc hb hcp hbp hu).symm
theorem not_under_zero {t:Tr} (h:SoundM t) {n:Int} (hn:n≠0):¬ UnderT t.brs n 0:=by
 intro hu
 have key:∀ x,UnderT t.brs n x→x≠0:=by
  intro x hx
  cases hx with
  | self=>exact hn
  | step hb _ _=>exact unit_pos (h.units _ hb)
 exact key 0 hu rfl
theorem kid_in {t:Tr} (h:SoundM t) {n k:Int} (hn:n=0∨∃ b∈t.brs,b.id=n) (hk:k∈childs t n):∃ c∈t.brs,c.parent=n∧c.id=k:=(childs_mem h hn).1 hk
theorem childs_nodup {t:Tr} (h:SoundM t) {n:Int} (hn:n=0∨∃ b∈t.brs,b.id=n):(childs t n).Nodup:=(((sound_parts t).1 h).2 n hn).1
theorem filt_below {t:Tr} (h:SoundM t):∀(f:Nat) (b:Br) (d:Nat),b∈t.brs→deep t.brs t.brs.length b=some d→t.brs.length≤f+d→∀ p,(p=0∨∃ c∈t.brs,c.id=p) →
  (UnderT t.brs b.id p→filt t (belowL t f b.id) p=childs t p)∧(¬ UnderT t.brs b.id p→filt t (belowL t f b.id) p=if b.parent=p then[b.id] else[]):=by
 intro f
 induction f with
 | zero =>
  intro b d hb hd hf p hp
  have hno:childs t b.id=[]:=by
   rw[List.eq_nil_iff_forall_not_mem]
   intro k hk
   obtain⟨c,hc,hcp,_⟩:=kid_in h (.inr ⟨b,hb,rfl⟩) hk
   have h1:=deep_child h hb hc hcp hd
   have h2:=deep_le h.asc hc h1
   omega
  have hpb:=parOf_in h.asc hb
  have hone:filt t (belowL t 0 b.id) p=if b.parent=p then[b.id] else[]:=by
   unfold belowL filt
   rw[List.filter_cons,hpb]
   by_cases e:b.parent=p
   ·simp[e]
   ·simp[e]
  refine⟨fun hu=>?_,fun _=>hone⟩
  rcases under_first h ⟨b,hb,rfl⟩ hu with e|⟨k,hk,_⟩
  ·rw[hone,e,hno,if_neg]
   intro e2
   obtain⟨r,hr⟩:=h.rank
   have h3:=hr b hb (by rw[e2];exact unit_pos (h.units b hb))
   rw[e2] at h3
   omega
  ·rw[hno] at hk
   cases hk
 | succ f ih =>
  intro b d hb hd hf p hp
  have hnb:b.id=0∨∃ c∈t.brs,c.id=b.id:=.inr ⟨b,hb,rfl⟩
  have hpb:=parOf_in h.asc hb
  have hkid:∀ k∈childs t b.id,∃ c∈t.brs,c.parent=b.id∧c.id=k∧(UnderT t.brs k p→filt t (belowL t f k) p=childs t p)∧(¬ UnderT t.brs k p→filt t (belowL t f k) p=if b.id=p then[k] else[]):=by
   intro k hk
   obtain⟨c,hc,hcp,e⟩:=kid_in h hnb hk
   have:=ih c (d+1) hc (deep_child h hb hc hcp hd) (by omega) p hp
   rw[e,hcp] at this
   exact⟨c,hc,hcp,e,this⟩
  have hsplit:filt t (belowL t (f+1) b.id) p=(if b.parent=p then[b.id] else[])++(childs t b.id).flatMap fun k=>filt t (belowL t f k) p:=by
   have:belowL t (f+1) b.id=[b.id]++(childs t b.id).flatMap (belowL t f):=rfl
   rw[this,filt_app,filt_flat]
   congr 1
   unfold filt
   rw[List.filter_cons,hpb]
   by_cases e:b.parent=p
   ·simp[e]
   ·simp[e]
  obtain⟨r,hr⟩:=h.rank
  constructor
  ·intro hu
   have hne:b.parent≠p:=by
    intro e
    have h1:=under_rank hr hu
    rcases hp with hp|⟨c,hc,e2⟩
    ·rw[hp] at hu
     exact not_under_zero h (unit_pos (h.units b hb)) hu
    ·have h2:=hr b hb (by rw[e,← e2];exact unit_pos (h.units c hc))
     rw[e] at h2
     omega
   rw[hsplit,if_neg hne,List.nil_append]
   by_cases e:b.id=p
   ·refine(flatMap_self fun k hk=>?_).trans (by rw[e])
    obtain⟨c,hc,hcp,ek,_,h2⟩:=hkid k hk
    rw[h2,if_pos e]
    intro hu2
    have h3:=under_rank hr hu2
    have h4:=hr c hc (by rw[hcp];exact unit_pos (h.units b hb))
    rw[hcp,ek,e] at h4
    omega
   ·rcases under_first h ⟨b,hb,rfl⟩ hu with e2|⟨k,hk,hku⟩
    ·exact absurd e2.symm e
    ·obtain⟨c,hc,hcp,ek,h1,_⟩:=hkid k hk
     rw[flatMap_one (childs_nodup h hnb) hk,h1 hku]
     intro j hj hjk
     obtain⟨c2,hc2,hcp2,ek2,_,h2⟩:=hkid j hj
     rw[h2,if_neg e]
     intro hju
     refine hjk ?_
     rw[← ek,← ek2]
     exact under_one h hc2 hc hcp2 hcp (by rw[ek2];exact hju) (by rw[ek];exact hku)
  ·intro hu
   have e:b.id≠p:=fun e=>hu (by rw[← e];exact UnderT.self)
   rw[hsplit]
   have:((childs t b.id).flatMap fun k=>filt t (belowL t f k) p)=[]:=by
    rw[List.flatMap_eq_nil_iff]
    intro k hk
    obtain⟨c,hc,hcp,ek,_,h2⟩:=hkid k hk
    rw[h2,if_neg e]
    intro hku
    refine hu (under_trans ?_ hku)
    rw[← ek]
    exact UnderT.step hc (by rw[hcp];exact unit_pos (h.units b hb)) (by rw[hcp];exact UnderT.self)
   rw[this,List.append_nil]
theorem root_of {t:Tr} (h:SoundM t) {x:Int} (hx:∃ b∈t.brs,b.id=x):∃ r∈t.roots,UnderT t.brs r x:=by
 obtain⟨r,hr⟩:=h.rank
 have key:∀ n (b:Br),b∈t.brs→r b.id≤n→∃ k∈t.roots,UnderT t.brs k b.id:=by
  intro n
  induction n with
  | zero =>
   intro b hb hn
   by_cases hp:b.parent=0
   ·exact⟨b.id,(h.roots.2 _).2 ⟨b,hb,hp,rfl⟩,UnderT.self⟩
   ·have:=hr b hb hp
    omega
  | succ n ih =>
   intro b hb hn
   by_cases hp:b.parent=0
   ·exact⟨b.id,(h.roots.2 _).2 ⟨b,hb,hp,rfl⟩,UnderT.self⟩
   ·have h1:=hr b hb hp
    rcases parent_there h hb with e|⟨c,hc,e⟩
    ·exact absurd e hp
    ·obtain⟨k,hk,hku⟩:=ih c hc (by rw[e];omega)
     exact⟨k,hk,UnderT.step hb hp (by rw[← e];exact hku)⟩
 obtain⟨b,hb,e⟩:=hx
 obtain⟨k,hk,hku⟩:=key (r b.id) b hb (Nat.le_refl _)
 exact⟨k,hk,by rw[← e];exact hku⟩
theorem childs_zero (t:Tr):childs t 0=t.roots:=by
 unfold childs
 rw[if_pos rfl]
theorem filt_all {t:Tr} (h:SoundM t) (p:Int) (hp:p=0∨∃ b∈t.brs,b.id=p):filt t (belowT t 0) p=childs t p:=by
 have hroot:∀ k∈t.roots,∃ c∈t.brs,c.parent=0∧c.id=k∧(UnderT t.brs k p→filt t (belowL t t.brs.length k) p=childs t p)∧(¬ UnderT t.brs k p→filt t (belowL t t.brs.length k) p=if 0=p then[k] else[]):=by
  intro k hk
  obtain⟨c,hc,hcp,e⟩:=(h.roots.2 k).1 hk
  obtain⟨d,hd,_⟩:=deep_some h hc
  have:=filt_below h t.brs.length c d hc hd (by omega) p hp
  rw[e,hcp] at this
  exact⟨c,hc,hcp,e,this⟩
 unfold belowT
 rw[if_pos rfl,filt_flat]
 rcases hp with hp|hp
 ·subst hp
  rw[childs_zero]
  refine flatMap_self fun k hk=>?_
  obtain⟨c,hc,hcp,ek,_,h2⟩:=hroot k hk
  rw[h2,if_pos rfl]
  rw[← ek]
  exact not_under_zero h (unit_pos (h.units c hc))
 ·obtain⟨k,hk,hku⟩:=root_of h hp
  obtain⟨c,hc,hcp,ek,h1,_⟩:=hroot k hk
  rw[flatMap_one h.roots.1 hk,h1 hku]
  intro j hj hjk
  obtain⟨c2,hc2,hcp2,ek2,_,h2⟩:=hroot j hj
  obtain⟨b,hb,e⟩:=hp
  rw[h2,if_neg]
  ·rw[← e]
   exact fun e2=>unit_pos (h.units b hb) e2.symm
  ·intro hju
   refine hjk ?_
   rw[← ek,← ek2]
   exact under_one h hc2 hc hcp2 hcp (by rw[ek2];exact hju) (by rw[ek];exact hku)
theorem all_mem_iff {t:Tr} (h:SoundM t) (x:Int):x∈belowT t 0↔∃ b∈t.brs,b.id=x:=by
 constructor
 ·intro hx
  unfold belowT at hx
  rw[if_pos rfl] at hx
  obtain⟨k,hk,hx⟩:=List.mem_flatMap.1 hx
  obtain⟨c,hc,_,e⟩:=(h.roots.2 k).1 hk
  obtain⟨d,hd,_⟩:=deep_some h hc
  rw[← e] at hx
  exact under_there ⟨c,hc,rfl⟩ ((mem_belowL h _ c d hc hd (by omega) x).1 hx)
 ·rintro ⟨b,hb,e⟩
  have h1:=filt_all h b.parent (parent_there h hb)
  have h2:x∈childs t b.parent:=(childs_mem h (parent_there h hb)).2 ⟨b,hb,rfl,e⟩
  rw[← h1] at h2
  exact(List.mem_filter.1 h2).1
theorem all_nodup {t:Tr} (h:SoundM t):(belowT t 0).Nodup:=by
 rw[List.nodup_iff_count]
 intro x
 by_cases hx:x∈belowT t 0
 ·obtain⟨b,hb,e⟩:=(all_mem_iff h x).1 hx
  have h1:=filt_all h b.parent (parent_there h hb)
  have h2:=childs_nodup h (parent_there h hb)
  rw[← h1] at h2
  have h3:=List.nodup_iff_count.1 h2 x
  unfold filt at h3
  rw[List.count_filter (by rw[← e,parOf_in h.asc hb];simp)] at h3
  exact h3
 ·rw[List.count_eq_zero.2 hx]
  omega
def ParFirst (t:Tr) (q:Int) (L:List Int):Prop:=∀ pre x post,L=pre++x::post→parOf t x=q∨parOf t x∈pre
theorem ParFirst.nil (t:Tr) (q:Int):ParFirst t q []:=fun pre x post e=>by simp at e
theorem ParFirst.app {t:Tr} {q:Int} {L M:List Int} (h1:ParFirst t q L) (h2:ParFirst t q M):ParFirst t q (L++M):=by
 intro pre x post e
 rcases List.append_eq_append_iff.1 e with ⟨bs,e1,e2⟩|⟨bs,e1,e2⟩
 ·rcases h2 bs x post e2 with h|h
  ·exact .inl h
  ·exact .inr (by rw[e1];exact List.mem_append_right _ h)
 ·cases bs with
  | nil =>
   simp only [List.nil_append] at e2
   rcases h2 [] x post e2.symm with h|h
   ·exact .inl h
   ·cases h
  | cons y bs =>
   simp only [List.cons_append,List.cons.injEq] at e2
   obtain⟨rfl,e2⟩:=e2
   exact h1 pre x bs e1
theorem ParFirst.flat {t:Tr} {q:Int} {g:Int→List Int}:∀ {L:List Int},(∀ k∈L,ParFirst t q (g k))→ParFirst t q (L.flatMap g)
 | [],_=>ParFirst.nil t q
 | x::r,h=>by
  rw[List.flatMap_cons]
  exact(h x (List.mem_cons_self ..)).app (ParFirst.flat fun k hk=>h k (List.mem_cons_of_mem _ hk))
end Go.Proofs.YtdochkemaiokfaaGreat
/- What is below a unit is no more than the units. No condition. -/
namespace Go.Proofs.YtdochkemaiokfaaGreat
open Go.RowKit
theorem nodup_of_filt {t:Tr} {L:List Int} (h:∀ x∈L,(filt t L (parOf t x)).Nodup):L.Nodup:=by
 rw[List.nodup_iff_count]
 intro x
 by_cases hx:x∈L
 ·have h3:=List.nodup_iff_count.1 (h x hx) x
  unfold filt at h3
  rw[List.count_filter (by simp)] at h3
  exact h3
 ·rw[List.count_eq_zero.2 hx]
  omega
theorem below_nodup {t:Tr} (h:SoundM t) (f:Nat) (b:Br) (d:Nat) (hb:b∈t.brs) (hd:deep t.brs t.brs.length b=some d) (hf:t.brs.length≤f+d):(belowL t f b.id).Nodup:=by
 refine nodup_of_filt (t:=t) fun x hx=>?_
 obtain⟨c,hc,e⟩:=under_there ⟨b,hb,rfl⟩ ((mem_belowL h f b d hb hd hf x).1 hx)
 rw[← e,parOf_in h.asc hc]
 have hp:=parent_there h hc
 obtain⟨h1,h2⟩:=filt_below h f b d hb hd hf c.parent hp
 by_cases hu:UnderT t.brs b.id c.parent
 ·rw[h1 hu]
  exact childs_nodup h hp
 ·rw[h2 hu]
  split<;>simp
theorem belowL_len {t:Tr} (h:SoundM t) (f:Nat) (b:Br) (d:Nat) (hb:b∈t.brs) (hd:deep t.brs t.brs.length b=some d) (hf:t.brs.length≤f+d):(belowL t f b.id).length≤t.brs.length:=by
 have h1:=List.Nodup.length_le_of_subset (l₂:=t.brs.map Br.id) (below_nodup h f b d hb hd hf) (fun x hx=>by
  obtain⟨c,hc,e⟩:=under_there ⟨b,hb,rfl⟩ ((mem_belowL h f b d hb hd hf x).1 hx)
  exact List.mem_map.2 ⟨c,hc,e⟩)
 rwa [List.length_map] at h1
theorem below_len {t:Tr} (h:SoundM t) (id:Int) (hid:id=0∨∃ b,brFind t.brs id=some b):(belowT t id).length≤t.brs.length:=by
 by_cases h0:id=0
 ·subst h0
  have h1:=List.Nodup.length_le_of_subset (l₂:=t.brs.map Br.id) (all_nodup h) (fun x hx=>by
   obtain⟨c,hc,e⟩:=(all_mem_iff h x).1 hx
   exact List.mem_map.2 ⟨c,hc,e⟩)
  rwa [List.length_map] at h1
 ·obtain⟨b,hb⟩:=hid.resolve_left h0
  have hin:=find_in hb
  obtain⟨d,hd,_⟩:=deep_some h hin.1
  unfold belowT
  rw[if_neg h0,← hin.2]
  exact belowL_len h _ b d hin.1 hd (by omega)
end Go.Proofs.YtdochkemaiokfaaGreat
/- The reference's Below of a tree, walked; the program's Below without a condition on what it returns. The conditions: the library's own variables hold what they must; the lists are short; the marks no longer than a string can be. -/
namespace Go.Proofs.YtdochkemaiokfaaGreat
open Go.RowKit
theorem tBelowX (rs:List Int) (l:List Br) (id:Int) (rv bv:Value) (w:World) (hE:Env w) (hr:SlI w rv rs) (hv:SlBr w bv l) (hf:FewBr l) (hrl:rs.length≤1000000) :
  Calls Tryz.prog 136 #[.agg #[rv,bv],.int .i64 id] w (RetMine (belowR ⟨rs,l⟩ id) w):=by
 by_cases hT:RightT ⟨rs,l⟩
 ·by_cases hz:topR l id=0
  ·exact tBelow rs l id rv bv w hE hr hv hf hrl (fun _=>by
    have h1:=below_len (right_sound hT) id (top_found hz)
    have h2:(Tr.brs ⟨rs,l⟩).length=l.length:=rfl
    have:=hf.1
    omega)
  ·exact tBelowNo rs l id rv bv w hE hr hv hf hrl (fun _=>hz)
 ·exact tBelowNo rs l id rv bv w hE hr hv hf hrl (fun h=>absurd h hT)
theorem RetList.is {r:List Int} {w w':World} {v:Value} (h:SlI w' v r) (hg:Grew w w'):RetIs (r,0) w (.returned (.tuple #[v,.int .i64 0])) w':=⟨v,rfl,h,hg⟩
end Go.Proofs.YtdochkemaiokfaaGreat