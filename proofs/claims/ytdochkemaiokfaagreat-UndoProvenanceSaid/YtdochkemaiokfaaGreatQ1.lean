/- Lemmas on what the functions of the program and of the library compute: Base, Types, TypesR, Nest, PlainN, PlainR, Shelf, A1, IdxR. The conditions stand at each. -/
import Derived.WalkKit
import Derived.WalkSpells
import Derived.WalkLawsBesides
import Derived.Lib.Hide
import Derived.BigGuardPart
import Derived.Deep.LoopGhost
import Derived.Deep.QuietTactic
import Derived.BigQuiet
import Derived.Deep.Draws
import Derived.Laws.Cells
import Derived.Deep.DeepFit
import Derived.Shelf.Abstract
import Derived.Deep.WholeRow
import Derived.Deep.MidRow
import Derived.Lib.SliceRun
import Derived.StillTailTactics
import Derived.Test.YtdochkemaiokfaaGreatProg
import Derived.Shelf.GgClosure.StringsIndexFunc
import Derived.Lib.IndexMore
import Derived.Shelf.Small.Bits
import Derived.Shelf.Small.Strs
import Derived.Shelf.Small.Wraps
import Derived.Shelf.Strings.Search3
import Derived.Shelf.LaysM
import Derived.Shelf.Strings.Shaped
import Derived.Shelf.Sort.Plain
import Derived.Shelf.Strings.FuncGrows
import Derived.Shelf.Slices.Reverse
import Derived.Ground.Names2Prog
import Derived.Shelf.Slices.SearchI
import Derived.Shelf.Slices.In.SortNone
import Derived.Lib.AppendIntMem
/- The words for memory that all texts of this claim use: what a slice reads as, what a call leaves as it was. No condition. -/
namespace Go.Proofs.YtdochkemaiokfaaGreat
open Go.RowKit
def Grew (w w':World):Prop:=Below w.heap.size w w'
section
variable {a b c w w':World}
theorem Grew.refl (w:World):Grew w w:=Below.refl _ _
theorem Grew.trans (h:Grew a b) (k:Grew b c):Grew a c:=Below.trans h (Below.mono k (Below.size h))
theorem Grew.size (h:Grew a b):a.heap.size≤b.heap.size:=Below.size h
theorem Grew.alloc (h:Grew a w) (o:Obj):Grew a (w.alloc o):=Below.alloc h (Below.size h) o
theorem Grew.drew (h:Grew a w):Grew a w.drew:=Below.drew h
theorem Grew.drewN (h:Grew a w) (n:Nat):Grew a (w.drewN n):=⟨h.os,h.tape,h.output,h.size,h.block⟩
theorem Grew.setCell (h:Grew a w) {p:Addr} (hp:a.heap.size≤p.block) (u:Value):Grew a (w.setCell p u):=Below.setCell h hp u
theorem Grew.cell (h:Grew a b) {p:Addr} (hp:p.block<a.heap.size):b.cell? p=a.cell? p:=Below.cell h hp
theorem Grew.frozen (h:Grew a b) {p:Addr} (hp:p.block<a.heap.size):b.frozen? p=a.frozen? p:=Below.frozen h hp
theorem Grew.cells (h:Grew a b):(∀ bl o,bl<a.heap.size→b.cell? ⟨bl,o,none⟩=a.cell? ⟨bl,o,none⟩)∧(∀ bl o,bl<a.heap.size→b.frozen? ⟨bl,o,none⟩=a.frozen? ⟨bl,o,none⟩) :=
 ⟨fun _ _ hb=>h.cell hb,fun _ _ hb=>h.frozen hb⟩
theorem Grew.below (h:Grew a b):Below a.heap.size a b:=h
end
def Rd (w:World) (k:Nat) (v:Value) (cs:List Value):Prop :=
 ∃(A:Option Addr) (n c:Nat),v=.slice A n c∧cs.length=n*k∧n≤c∧c≤maxLen ∧
  (0<n→∃ b off,A=some ⟨b,off,none⟩∧b<w.heap.size∧∀ j u,cs[j]? = some u→w.cell? ⟨b,off+j,none⟩=some u)
theorem Rd.mono {w w':World} {k:Nat} {v:Value} {cs:List Value} (h:Rd w k v cs) (hg:Grew w w'):Rd w' k v cs:=by
 obtain⟨A,n,c,hv,hl,hn,hc,hr⟩:=h
 refine⟨A,n,c,hv,hl,hn,hc,fun h0=>?_⟩
 obtain⟨b,off,hA,hb,hcell⟩:=hr h0
 exact⟨b,off,hA,Nat.lt_of_lt_of_le hb hg.size,fun j u hu=>(hg.cell hb).trans (hcell j u hu)⟩
theorem Rd.nil (w:World) (k:Nat):Rd w k (.slice none 0 0) []:=⟨none,0,0,rfl,by simp,Nat.le_refl _,Nat.zero_le _,fun h=>absurd h (Nat.lt_irrefl _)⟩
theorem Rd.fresh (w:World) (e:TypeId) (k n:Nat) (cs:List Value) (h:cs.length=n*k) (hn:n≤maxLen):Rd (w.alloc (.cells cs.toArray e)) k (.slice (some ⟨w.heap.size,0,none⟩) n n) cs:=by
 refine⟨_,n,n,rfl,h,Nat.le_refl _,hn,fun _=>⟨w.heap.size,0,rfl,by simp,fun j u hu=>?_⟩⟩
 have hlast:(w.alloc (.cells cs.toArray e)).heap[w.heap.size]? = some (.cells cs.toArray e):=heap_alloc_last w _
 rw[cell_of_row _ _ _ _ _ _ hlast]
 simpa using hu
theorem ret_int {k:IntKind} {a b:Int} (h:a=b):Ending.returned (.int k a)=.returned (.int k b):=by rw[h]
theorem ret_bool {a b:Bool} (h:a=b):Ending.returned (.bool a)=.returned (.bool b):=by rw[h]
theorem add_lit (b off j:Nat):(⟨b,off,none⟩:Addr).add j=⟨b,off+j,none⟩:=by
 unfold Addr.add
 split
 ·next h=>subst h;rfl
 ·rfl
def idxFrom {α:Type} (p:α→Bool):List α→Nat→Int
 | [],_=>-1
 | x::r,i=>if p x then(i:Int) else idxFrom p r (i+1)
def idxP {α:Type} (p:α→Bool) (l:List α):Int:=idxFrom p l 0
theorem idxFrom_hit {α:Type} (p:α→Bool) (l:List α) (j k:Nat) (hk:k<l.length) (hp:p l[k]=true) (h:∀ i (hi:i<l.length),i<k→p l[i]=false):idxFrom p l j=((j+k:Nat):Int):=by
 induction l generalizing j k with
 | nil=>simp at hk
 | cons x r ih =>
  cases k with
  | zero=>simp at hp;simp[idxFrom,hp]
  | succ k =>
   have h0:=h 0 (by simp) (by omega)
   simp only [List.getElem_cons_zero] at h0
   rw[idxFrom,h0]
   simp only [Bool.false_eq_true,if_false]
   have e:=ih (j+1) k (by simpa using hk) (by simpa using hp) (fun i hi hik=>h (i+1) (Nat.succ_lt_succ hi) (by omega))
   rw[e]
   congr 1
   omega
theorem idxFrom_miss {α:Type} (p:α→Bool) (l:List α) (j:Nat) (h:∀ i (hi:i<l.length),p l[i]=false):idxFrom p l j=-1:=by
 induction l generalizing j with
 | nil=>rfl
 | cons x r ih =>
  have h0:=h 0 (by simp)
  simp only [List.getElem_cons_zero] at h0
  rw[idxFrom,h0]
  simp only [Bool.false_eq_true,if_false]
  exact ih (j+1) (fun i hi=>h (i+1) (Nat.succ_lt_succ hi))
theorem idxP_hit {α:Type} (p:α→Bool) (l:List α) (k:Nat) (hk:k<l.length) (hp:p l[k]=true) (h:∀ i (hi:i<l.length),i<k→p l[i]=false):idxP p l=(k:Int):=by
 unfold idxP
 rw[idxFrom_hit p l 0 k hk hp h]
 simp
theorem idxP_miss {α:Type} (p:α→Bool) (l:List α) (h:∀ i (hi:i<l.length),p l[i]=false):idxP p l=-1:=idxFrom_miss p l 0 h
theorem idxFrom_any {α:Type} (p:α→Bool) (l:List α) (j:Nat):decide (0≤idxFrom p l j)=l.any p:=by
 induction l generalizing j with
 | nil=>rfl
 | cons x r ih =>
  rw[idxFrom,List.any_cons]
  by_cases h:p x=true
  ·rw[if_pos h,h]
   simp
  ·simp only [Bool.not_eq_true] at h
   rw[h]
   simp only [Bool.false_eq_true,if_false,Bool.false_or]
   exact ih (j+1)
theorem idxP_any {α:Type} (p:α→Bool) (l:List α):decide (0≤idxP p l)=l.any p:=idxFrom_any p l 0
theorem idxP_find {α:Type} (p:α→Bool) (l:List α) (h:l.any p=true):∃ m,∃ hm:m<l.length,p l[m]=true∧∀ i (hi:i<l.length),i<m→p l[i]=false:=by
 induction l with
 | nil=>simp at h
 | cons x r ih =>
  by_cases hx:p x=true
  ·exact⟨0,by simp,hx,fun i _ hi=>absurd hi (Nat.not_lt_zero _)⟩
  ·simp only [Bool.not_eq_true] at hx
   rw[List.any_cons,hx,Bool.false_or] at h
   obtain⟨m,hm,h1,h2⟩:=ih h
   refine⟨m+1,Nat.succ_lt_succ hm,h1,fun i hi hlt=>?_⟩
   cases i with
   | zero=>exact hx
   | succ i=>exact h2 i (Nat.lt_of_succ_lt_succ hi) (by omega)
theorem own_setCells {base:Nat} {e:TypeId} {k g n cap:Nat}:∀(vs:List Value) (o:Nat) (w:World) (ds:List Value),w.ownsRow base e k (.slice (some ⟨g,0,none⟩) n cap) n ds →
  ∃ ds',(w.setCells g o vs).ownsRow base e k (.slice (some ⟨g,0,none⟩) n cap) n ds'∧w.grownBy (w.setCells g o vs) (some g)∧ds'.length=ds.length ∧
   (∀ t,t<o∨o+vs.length≤t→ds'[t]? = ds[t]?)∧(∀ t,t<vs.length→o+t<ds.length→ds'[o+t]? = vs[t]?)
 | [],o,w,ds,h=>⟨ds,h,World.grownBy.refl w _,rfl,fun _ _=>rfl,fun t ht=>absurd ht (Nat.not_lt_zero _)⟩
 | v::vs,o,w,ds,h=>by
  obtain⟨h1,hg1⟩:=h.stored o v
  obtain⟨ds',h2,hg2,hl,ha,hb⟩:=own_setCells vs (o+1) (w.setCell ⟨g,o,none⟩ v) (ds.set o v) h1
  refine⟨ds',h2,hg1.trans hg2,by rw[hl,List.length_set],fun t ht=>?_,fun t ht htl=>?_⟩
  ·simp only [List.length_cons] at ht
   rw[ha t (by omega),List.getElem?_set_ne (by omega)]
  ·cases t with
   | zero =>
    rw[Nat.add_zero,ha o (by omega),List.getElem?_set_self (by omega)]
    rfl
   | succ t =>
    rw[show o+(t+1)=o+1+t by omega,hb t (by simpa using ht) (by rw[List.length_set];omega)]
    rfl
theorem own_cell {w:World} {base:Nat} {e:TypeId} {k g n cap:Nat} {ds:List Value} (h:w.ownsRow base e k (.slice (some ⟨g,0,none⟩) n cap) n ds) (t:Nat) (ht:t<n*k):∃ u,ds[t]? = some u∧w.cell? ⟨g,t,none⟩=some u:=by
 have hl:=h.1
 refine⟨ds[t]'(by omega),List.getElem?_eq_getElem (by omega),?_⟩
 rw[h.cellAt t ht]
 exact List.getElem?_eq_getElem (by omega)
theorem run_clear_own {P:Program} (w:World) (t e ty:TypeId) (z:Value) (k:Nat) (ht:P.underlying t=some (.slice e)) (hz:∀ w,(zeroValue e).run P w=.ok z w) (hk:z.cells.size=k) (h0:0<k) (h1:∀ u∈z.cells.toList,u.oneCell'=true)
  {base g n cap:Nat} {ds:List Value} (h:w.ownsRow base e k (.slice (some ⟨g,0,none⟩) n cap) n ds) (i c:Nat) (hi:i<n) :
  ∃ w' ds',(Builtin.clear_ #[t] ty #[.slice (some ⟨g,i*k,none⟩) (n-i) c]).run P w=.ok (.tuple #[]) w'∧w'.ownsRow base e k (.slice (some ⟨g,0,none⟩) n cap) n ds'∧w.grownBy w' (some g)∧∀ t,t<i*k→ds'[t]? = ds[t]?:=by
 have hlen:(Builtin.zeroCells z.cells (n-i)).toList.length=(n-i)*k:=by
  simp[Builtin.zeroCells,hk]
 have hone:∀ v∈(Builtin.zeroCells z.cells (n-i)).toList,v.oneCell'=true:=by
  intro v hv
  simp only [Builtin.zeroCells,Array.toList_map,List.mem_map] at hv
  obtain⟨j,_,rfl⟩:=hv
  have hlt:j % z.cells.size<z.cells.size:=Nat.mod_lt _ (by omega)
  rw[getElem!_pos z.cells _ hlt]
  exact h1 _ (by simp)
 have hle:(n-i)*k+i*k=n*k:=by rw[← Nat.add_mul];congr 1;omega
 obtain⟨ds',hd,hg,_,ha,_⟩:=own_setCells (Builtin.zeroCells z.cells (n-i)).toList (i*k) w ds h
 have hst:=run_storeCells_cells (P:=P) g (i*k) (Builtin.zeroCells z.cells (n-i)).toList 0 w
  (fun j hj=>by
   obtain⟨u,_,hu⟩:=own_cell h (i*k+j) (by omega)
   simp[hu])
  (fun j hj=>h.frozenAt _) hone
 simp only [Nat.add_zero] at hst
 refine⟨_,ds',?_,hd,hg,fun t ht=>ha t (.inl ht)⟩
 obtain⟨m,hm⟩:∃ m,n-i=m+1:=⟨n-i-1,by omega⟩
 rw[hm] at hst ⊢
 simp[Builtin.clear_,run_underlying ht,hz,hst]
theorem region_still_tail {P:Program} {id:Nat} {Q:Exit→Act→World→Prop} {a:Act} {w:World} {l:List Oper} (n:Nat) (hm:P.follows .mixedOrders=true) (hB:Region.lexTailB .any l.toArray n=true)
  (h:wpStill P l.toArray w.drew (fun a'=>wpList P l.toArray Q (l.drop n) a' w.drew) (l.take n) a):(Code.region id l.toArray true).wp P Q a w:=wp_region_still_tail n hm hB h
end Go.Proofs.YtdochkemaiokfaaGreat
/- The program's data as Lean's, and how they lie in memory. No condition. -/
namespace Go.Proofs.YtdochkemaiokfaaGreat
open Go.RowKit
theorem flatMap_get {α:Type} (f:α→List Value) (k:Nat) (hk:∀ x,(f x).length=k) (l:List α) (i j:Nat) (hi:i<l.length) (hj:j<k) :
  (l.flatMap f)[i*k+j]? = (f l[i])[j]?:=by
 induction l generalizing i with
 | nil=>simp at hi
 | cons x r ih =>
  rw[List.flatMap_cons]
  cases i with
  | zero =>
   rw[List.getElem?_append_left (by rw[hk];omega)]
   simp
  | succ i =>
   rw[List.getElem?_append_right (by rw[hk,Nat.add_mul];omega),hk]
   have e:(i+1)*k+j-k=i*k+j:=by rw[Nat.add_mul];omega
   rw[e,ih i (by simpa using hi)]
   rfl
theorem flatMap_len {α:Type} (f:α→List Value) (k:Nat) (hk:∀ x,(f x).length=k) (l:List α):(l.flatMap f).length=l.length*k:=by
 induction l with
 | nil=>simp
 | cons x r ih=>rw[List.flatMap_cons,List.length_append,hk,ih,List.length_cons,Nat.add_mul];omega
theorem Rd.open_ {α:Type} {w:World} {k:Nat} {v:Value} {f:α→List Value} {l:List α} (hk:∀ x,(f x).length=k) (h0:0<k) (h:Rd w k v (l.flatMap f)) :
  ∃(A:Option Addr) (c:Nat),v=.slice A l.length c∧l.length≤c∧c≤maxLen ∧
   (0<l.length→∃ b off,A=some ⟨b,off,none⟩∧b<w.heap.size∧∀ W,Grew w W→∀ i (hi:i<l.length) j,j<k→W.cell? ⟨b,off+i*k+j,none⟩=(f l[i])[j]?):=by
 obtain⟨A,n,c,hv,hl,hn,hc,hr⟩:=h
 rw[flatMap_len f k hk] at hl
 obtain rfl:n=l.length:=(Nat.eq_of_mul_eq_mul_right h0 hl).symm
 refine⟨A,c,hv,hn,hc,fun hp=>?_⟩
 obtain⟨b,off,hA,hb,hcell⟩:=hr hp
 refine⟨b,off,hA,hb,fun W hW i hi j hj=>?_⟩
 have e:=flatMap_get f k hk l i j hi hj
 have hlt:j<(f l[i]).length:=by rw[hk];exact hj
 rw[List.getElem?_eq_getElem hlt] at e ⊢
 rw[hW.cell (p:=⟨b,off+i*k+j,none⟩) hb,show off+i*k+j=off+(i*k+j) by omega]
 exact hcell _ _ e
def DelInv {α:Type} (k:Nat) (f:α→List Value) (l:List α) (q:α→Bool) (ds:List Value) (i j:Nat):Prop :=
 ds.length=l.length*k∧i=((l.take j).filter q).length∧j≤l.length∧(∀ t,t<i*k→ds[t]? = (((l.take j).filter q).flatMap f)[t]?)∧(∀ t,j*k≤t→ds[t]? = (l.flatMap f)[t]?)
section
variable {α:Type} {k:Nat} {f:α→List Value} {l:List α} {q:α→Bool} {ds:List Value} {i j:Nat}
theorem DelInv.le (h:DelInv k f l q ds i j):i≤j:=by
 obtain⟨_,hi,hj,_⟩:=h
 have:=List.length_filter_le q (l.take j)
 rw[List.length_take] at this
 omega
theorem DelInv.start (hk:∀ x,(f x).length=k) (m:Nat) (hm:m<l.length) (hq:q l[m]=false) (hb:∀ t (ht:t<l.length),t<m→q l[t]=true):DelInv k f l q (l.flatMap f) m (m+1):=by
 have e:(l.take (m+1)).filter q=l.take m:=by
  rw[List.take_succ_eq_append_getElem hm,List.filter_append]
  have h1:(l.take m).filter q=l.take m:=List.filter_eq_self.2 (fun x hx=>by
   obtain⟨t,ht,rfl⟩:=List.getElem_of_mem hx
   rw[List.getElem_take]
   rw[List.length_take] at ht
   exact hb t (by omega) (by omega))
  rw[h1]
  simp[hq]
 refine⟨flatMap_len f k hk l,by rw[e,List.length_take];omega,by omega,fun t ht=>?_,fun t _=>rfl⟩
 rw[e]
 conv=>lhs;rw[← List.take_append_drop m l,List.flatMap_append]
 rw[List.getElem?_append_left]
 rw[flatMap_len f k hk,List.length_take,Nat.min_eq_left (by omega)]
 exact ht
theorem DelInv.at_ (h:DelInv k f l q ds i j) (hk:∀ x,(f x).length=k) (hj:j<l.length) (t:Nat) (ht:t<k):ds[j*k+t]? = (f l[j])[t]?:=by
 rw[h.2.2.2.2 (j*k+t) (by omega),flatMap_get f k hk l j t hj ht]
theorem DelInv.skip (h:DelInv k f l q ds i j) (hj:j<l.length) (hq:q l[j]=false):DelInv k f l q ds i (j+1):=by
 obtain⟨h1,h2,h3,h4,h5⟩:=h
 have e:(l.take (j+1)).filter q=(l.take j).filter q:=by
  rw[List.take_succ_eq_append_getElem hj,List.filter_append]
  simp[hq]
 exact⟨h1,by rw[e];exact h2,by omega,by rw[e];exact h4,fun t ht=>h5 t (by rw[Nat.add_mul] at ht;omega)⟩
theorem DelInv.keep {ds':List Value} (h:DelInv k f l q ds i j) (hk:∀ x,(f x).length=k) (hj:j<l.length) (hq:q l[j]=true) (hl:ds'.length=ds.length)
  (ha:∀ t,t<i*k∨i*k+(f l[j]).length≤t→ds'[t]? = ds[t]?) (hb:∀ t,t<(f l[j]).length→i*k+t<ds.length→ds'[i*k+t]? = (f l[j])[t]?):DelInv k f l q ds' (i+1) (j+1):=by
 have hij:=h.le
 obtain⟨h1,h2,h3,h4,h5⟩:=h
 have e:(l.take (j+1)).filter q=(l.take j).filter q++[l[j]]:=by
  rw[List.take_succ_eq_append_getElem hj,List.filter_append]
  simp[hq]
 have hmul:i*k≤j*k:=Nat.mul_le_mul_right k hij
 have hmul2:(j+1)*k≤l.length*k:=Nat.mul_le_mul_right k (by omega)
 rw[Nat.add_mul] at hmul2
 have hfl:(((l.take j).filter q).flatMap f).length=i*k:=by rw[flatMap_len f k hk,← h2]
 refine⟨by rw[hl];exact h1,by rw[e,List.length_append,← h2];rfl,by omega,fun t ht=>?_,fun t ht=>?_⟩
 ·rw[e,List.flatMap_append]
  rw[Nat.add_mul] at ht
  rcases Nat.lt_or_ge t (i*k) with hlt|hge
  ·rw[ha t (.inl hlt),h4 t hlt,List.getElem?_append_left (by omega)]
  ·have:=hb (t-i*k) (by rw[hk];omega) (by omega)
   rw[show i*k+(t-i*k)=t by omega] at this
   rw[this,List.getElem?_append_right (by omega),hfl]
   simp
 ·rw[Nat.add_mul] at ht
  rw[ha t (.inr (by rw[hk];omega))]
  exact h5 t (by omega)
theorem DelInv.done {ds':List Value} (h:DelInv k f l q ds i l.length) (hk:∀ x,(f x).length=k) (hd:∀ t,t<i*k→ds'[t]? = ds[t]?):ds'.take (i*k)=(l.filter q).flatMap f∧i=(l.filter q).length:=by
 obtain⟨_,h2,_,h4,_⟩:=h
 rw[List.take_length] at h2 h4
 refine⟨?_,h2⟩
 apply List.ext_getElem?
 intro t
 rw[List.getElem?_take]
 split
 ·next ht=>rw[hd t ht,h4 t ht]
 ·next ht =>
  rw[List.getElem?_eq_none]
  rw[flatMap_len f k hk,← h2]
  omega
end
theorem own_cut {w:World} {base:Nat} {e:TypeId} {k g n cap:Nat} {ds:List Value} (h:w.ownsRow base e k (.slice (some ⟨g,0,none⟩) n cap) n ds) (i:Nat) (hi:i≤n):w.ownsRow base e k (.slice (some ⟨g,0,none⟩) i cap) i (ds.take (i*k)):=by
 have hm:i*k≤n*k:=Nat.mul_le_mul_right k hi
 refine⟨by rw[List.length_take,h.1];omega,?_⟩
 rcases h.2 with ⟨h1,_⟩|⟨g',c',cur,hv,hb,hh,hle,hmx,hsz,htk⟩
 ·cases h1
 ·injection hv with hA _ hC
  injection hA with hA
  injection hA with hG
  subst hG hC
  exact .inr ⟨_,_,cur,rfl,hb,hh,by omega,hmx,hsz,by rw[← htk,List.take_take,Nat.min_eq_left hm]⟩
theorem own_later {w w':World} {base:Nat} {e:TypeId} {k:Nat} {v:Value} {n:Nat} {xs:List Value} (h:w.ownsRow base e k v n xs) (hg:Grew w w'):w'.ownsRow base e k v n xs:=by
 refine⟨h.1,?_⟩
 rcases h.2 with h1|⟨g,cap,cur,hv,hb,hh,r⟩
 ·exact .inl h1
 ·refine .inr ⟨g,cap,cur,hv,hb,?_,r⟩
  rw[hg.block g]
  ·exact hh
  ·rcases Nat.lt_or_ge g w.heap.size with hlt|hge
   ·exact hlt
   ·rw[Array.getElem?_eq_none hge] at hh;cases hh
theorem own_form {w:World} {base:Nat} {e:TypeId} {size n:Nat} {v:Value} {xs:List Value} (h:w.ownsRow base e size v n xs) (h0:0<n):∃ g cap,v=.slice (some ⟨g,0,none⟩) n cap∧base≤g∧g<w.heap.size∧n≤cap:=by
 rcases h.2 with ⟨_,h1⟩|⟨g,cap,cur,hv,hb,hh,hle,_⟩
 ·omega
 ·refine⟨g,cap,hv,hb,?_,hle⟩
  rcases Nat.lt_or_ge g w.heap.size with hlt|hge
  ·exact hlt
  ·rw[Array.getElem?_eq_none hge] at hh;cases hh
theorem own_max {w:World} {base:Nat} {e:TypeId} {size n g cap:Nat} {xs:List Value} (h:w.ownsRow base e size (.slice (some ⟨g,0,none⟩) n cap) n xs):cap≤maxLen:=by
 rcases h.2 with ⟨h1,_⟩|⟨g',c',cur,hv,_,_,_,hm,_⟩
 ·cases h1
 ·injection hv with _ _ hc
  subst hc
  exact hm
theorem Rd.of_own {w:World} {base:Nat} {e:TypeId} {k:Nat} {v:Value} {n:Nat} {xs:List Value} (h:w.ownsRow base e k v n xs):Rd w k v xs:=by
 have hl:=h.1
 rcases h.2 with ⟨hv,hn⟩|⟨g,cap,cur,hv,_,hh,hle,hmx,_,htk⟩
 ·subst hv hn
  exact⟨none,0,0,rfl,hl,Nat.le_refl _,Nat.zero_le _,fun h=>absurd h (Nat.lt_irrefl _)⟩
 ·subst hv
  refine⟨_,n,cap,rfl,hl,hle,hmx,fun _=>⟨g,0,rfl,?_,fun j u hu=>?_⟩⟩
  ·rcases Nat.lt_or_ge g w.heap.size with hlt|hge
   ·exact hlt
   ·rw[Array.getElem?_eq_none hge] at hh;cases hh
  ·rw[Nat.zero_add,cell_of_row w g j cur e (0,0) hh,← hu,← htk,List.getElem?_take]
   have:j<n*k:=by rw[← hl];exact(List.getElem?_eq_some_iff.1 hu).1
   rw[if_pos this]
   simp
structure Val where
 unit:Int
 elem:Int
 lang:ByteArray
 text:ByteArray
deriving DecidableEq,Inhabited
def Val.cells (x:Val):List Value:=[.int .i64 x.unit,.int .i64 x.elem,.string x.lang,.string x.text]
def Val.agg (x:Val):Value:=.agg #[.int .i64 x.unit,.int .i64 x.elem,.string x.lang,.string x.text]
def SlV (w:World) (v:Value) (l:List Val):Prop:=Rd w 4 v (l.flatMap Val.cells)
theorem SlV.mono {w w':World} {v:Value} {l:List Val} (h:SlV w v l) (hg:Grew w w'):SlV w' v l:=Rd.mono h hg
theorem SlV.nil (w:World):SlV w (.slice none 0 0) []:=Rd.nil w _
theorem SlV.open_ {w : World} {v : Value} {l : List Val} (h : SlV w v l) : ∃ (A : Option Addr) (c : Nat), v = .slice A l.length c ∧ l.length ≤ c ∧ c ≤ maxLen ∧
      (0 < l.length → ∃ b off, A = some ⟨b, off, none⟩ ∧ b < w.heap.size ∧ ∀ W, Grew w W → ∀ i (hi : i < l.length), W.cell? ⟨b, off + i * 4, none⟩ = some (.int .i64 l[i].unit) ∧ W.cell? ⟨b, off + i * 4 + 1, none⟩ = some (.int .i64 l[i].elem) ∧ W.cell? ⟨b, off + i * 4 + 2, none⟩ = some (.string l[i].lang) ∧ W.cell? ⟨b, off + i * 4 + 3, none⟩ = some (.string l[i].text)) := by
 obtain⟨A,c,hv,hn,hm,hr⟩:=Rd.open_ (k:=4) (f:=Val.cells) (fun _=>rfl) (by omega) h
 refine⟨A,c,hv,hn,hm,fun h0=>?_⟩
 obtain⟨b,off,hA,hb,hc⟩:=hr h0
 exact⟨b,off,hA,hb,fun W hW i hi=>⟨by simpa [Val.cells] using hc W hW i hi 0 (by omega),by simpa [Val.cells] using hc W hW i hi 1 (by omega),by simpa [Val.cells] using hc W hW i hi 2 (by omega),by simpa [Val.cells] using hc W hW i hi 3 (by omega)⟩⟩
structure Kind where
 word:ByteArray
 inh:Bool
 lev:Int
deriving DecidableEq,Inhabited
def Kind.cells (x:Kind):List Value:=[.string x.word,.bool x.inh,.int .i64 x.lev]
def Kind.agg (x:Kind):Value:=.agg #[.string x.word,.bool x.inh,.int .i64 x.lev]
def SlK (w:World) (v:Value) (l:List Kind):Prop:=Rd w 3 v (l.flatMap Kind.cells)
theorem SlK.mono {w w':World} {v:Value} {l:List Kind} (h:SlK w v l) (hg:Grew w w'):SlK w' v l:=Rd.mono h hg
theorem SlK.nil (w:World):SlK w (.slice none 0 0) []:=Rd.nil w _
theorem SlK.open_ {w : World} {v : Value} {l : List Kind} (h : SlK w v l) : ∃ (A : Option Addr) (c : Nat), v = .slice A l.length c ∧ l.length ≤ c ∧ c ≤ maxLen ∧
      (0 < l.length → ∃ b off, A = some ⟨b, off, none⟩ ∧ b < w.heap.size ∧ ∀ W, Grew w W → ∀ i (hi : i < l.length), W.cell? ⟨b, off + i * 3, none⟩ = some (.string l[i].word) ∧ W.cell? ⟨b, off + i * 3 + 1, none⟩ = some (.bool l[i].inh) ∧ W.cell? ⟨b, off + i * 3 + 2, none⟩ = some (.int .i64 l[i].lev)) := by
 obtain⟨A,c,hv,hn,hm,hr⟩:=Rd.open_ (k:=3) (f:=Kind.cells) (fun _=>rfl) (by omega) h
 refine⟨A,c,hv,hn,hm,fun h0=>?_⟩
 obtain⟨b,off,hA,hb,hc⟩:=hr h0
 exact⟨b,off,hA,hb,fun W hW i hi=>⟨by simpa [Kind.cells] using hc W hW i hi 0 (by omega),by simpa [Kind.cells] using hc W hW i hi 1 (by omega),by simpa [Kind.cells] using hc W hW i hi 2 (by omega)⟩⟩
def oneS (x:ByteArray):List Value:=[.string x]
def SlS (w:World) (v:Value) (l:List ByteArray):Prop:=Rd w 1 v (l.flatMap oneS)
theorem SlS.mono {w w':World} {v:Value} {l:List ByteArray} (h:SlS w v l) (hg:Grew w w'):SlS w' v l:=Rd.mono h hg
theorem SlS.nil (w:World):SlS w (.slice none 0 0) []:=Rd.nil w _
theorem SlS.open_ {w : World} {v : Value} {l : List ByteArray} (h : SlS w v l) : ∃ (A : Option Addr) (c : Nat), v = .slice A l.length c ∧ l.length ≤ c ∧ c ≤ maxLen ∧
      (0 < l.length → ∃ b off, A = some ⟨b, off, none⟩ ∧ b < w.heap.size ∧ ∀ W, Grew w W → ∀ i (hi : i < l.length), W.cell? ⟨b, off + i, none⟩ = some (.string l[i])) := by
 obtain⟨A,c,hv,hn,hm,hr⟩:=Rd.open_ (k:=1) (f:=oneS) (fun _=>rfl) (by omega) h
 refine⟨A,c,hv,hn,hm,fun h0=>?_⟩
 obtain⟨b,off,hA,hb,hc⟩:=hr h0
 exact⟨b,off,hA,hb,fun W hW i hi=>by simpa [oneS] using hc W hW i hi 0 (by omega)⟩
def oneI (x:Int):List Value:=[.int .i64 x]
def SlI (w:World) (v:Value) (l:List Int):Prop:=Rd w 1 v (l.flatMap oneI)
theorem SlI.mono {w w':World} {v:Value} {l:List Int} (h:SlI w v l) (hg:Grew w w'):SlI w' v l:=Rd.mono h hg
theorem SlI.nil (w:World):SlI w (.slice none 0 0) []:=Rd.nil w _
theorem SlI.open_ {w : World} {v : Value} {l : List Int} (h : SlI w v l) : ∃ (A : Option Addr) (c : Nat), v = .slice A l.length c ∧ l.length ≤ c ∧ c ≤ maxLen ∧
      (0 < l.length → ∃ b off, A = some ⟨b, off, none⟩ ∧ b < w.heap.size ∧ ∀ W, Grew w W → ∀ i (hi : i < l.length), W.cell? ⟨b, off + i, none⟩ = some (.int .i64 l[i])) := by
 obtain⟨A,c,hv,hn,hm,hr⟩:=Rd.open_ (k:=1) (f:=oneI) (fun _=>rfl) (by omega) h
 refine⟨A,c,hv,hn,hm,fun h0=>?_⟩
 obtain⟨b,off,hA,hb,hc⟩:=hr h0
 exact⟨b,off,hA,hb,fun W hW i hi=>by simpa [oneI] using hc W hW i hi 0 (by omega)⟩
end Go.Proofs.YtdochkemaiokfaaGreat
/- The data of trees, authorities and relations, and how they lie in memory. No condition. -/
namespace Go.Proofs.YtdochkemaiokfaaGreat
open Go.RowKit
structure Nam where
 text:ByteArray
 fr:Int
 un:Int
deriving DecidableEq,Inhabited
def Nam.cells (x:Nam):List Value:=[.string x.text,.int .i64 x.fr,.int .i64 x.un]
def Nam.agg (x:Nam):Value:=.agg #[.string x.text,.int .i64 x.fr,.int .i64 x.un]
def SlN (w:World) (v:Value) (l:List Nam):Prop:=Rd w 3 v (l.flatMap Nam.cells)
theorem SlN.mono {w w':World} {v:Value} {l:List Nam} (h:SlN w v l) (hg:Grew w w'):SlN w' v l:=Rd.mono h hg
theorem SlN.nil (w:World):SlN w (.slice none 0 0) []:=Rd.nil w _
theorem SlN.open_ {w : World} {v : Value} {l : List Nam} (h : SlN w v l) : ∃ (A : Option Addr) (c : Nat), v = .slice A l.length c ∧ l.length ≤ c ∧ c ≤ maxLen ∧
      (0 < l.length → ∃ b off, A = some ⟨b, off, none⟩ ∧ b < w.heap.size ∧ ∀ W, Grew w W → ∀ i (hi : i < l.length), W.cell? ⟨b, off + i * 3, none⟩ = some (.string l[i].text) ∧ W.cell? ⟨b, off + i * 3 + 1, none⟩ = some (.int .i64 l[i].fr) ∧ W.cell? ⟨b, off + i * 3 + 2, none⟩ = some (.int .i64 l[i].un)) := by
 obtain⟨A,c,hv,hn,hm,hr⟩:=Rd.open_ (k:=3) (f:=Nam.cells) (fun _=>rfl) (by omega) h
 refine⟨A,c,hv,hn,hm,fun h0=>?_⟩
 obtain⟨b,off,hA,hb,hc⟩:=hr h0
 exact⟨b,off,hA,hb,fun W hW i hi=>⟨by simpa [Nam.cells] using hc W hW i hi 0 (by omega),by simpa [Nam.cells] using hc W hW i hi 1 (by omega),by simpa [Nam.cells] using hc W hW i hi 2 (by omega)⟩⟩
structure Rel where
 unit:Int
 role:Int
 auth:Int
 fr:Int
 un:Int
deriving DecidableEq,Inhabited
def Rel.cells (x:Rel):List Value:=[.int .i64 x.unit,.int .i64 x.role,.int .i64 x.auth,.int .i64 x.fr,.int .i64 x.un]
def Rel.agg (x:Rel):Value:=.agg #[.int .i64 x.unit,.int .i64 x.role,.int .i64 x.auth,.int .i64 x.fr,.int .i64 x.un]
def SlR (w:World) (v:Value) (l:List Rel):Prop:=Rd w 5 v (l.flatMap Rel.cells)
theorem SlR.mono {w w':World} {v:Value} {l:List Rel} (h:SlR w v l) (hg:Grew w w'):SlR w' v l:=Rd.mono h hg
theorem SlR.nil (w:World):SlR w (.slice none 0 0) []:=Rd.nil w _
theorem SlR.open_ {w : World} {v : Value} {l : List Rel} (h : SlR w v l) : ∃ (A : Option Addr) (c : Nat), v = .slice A l.length c ∧ l.length ≤ c ∧ c ≤ maxLen ∧
      (0 < l.length → ∃ b off, A = some ⟨b, off, none⟩ ∧ b < w.heap.size ∧ ∀ W, Grew w W → ∀ i (hi : i < l.length), W.cell? ⟨b, off + i * 5, none⟩ = some (.int .i64 l[i].unit) ∧ W.cell? ⟨b, off + i * 5 + 1, none⟩ = some (.int .i64 l[i].role) ∧ W.cell? ⟨b, off + i * 5 + 2, none⟩ = some (.int .i64 l[i].auth) ∧ W.cell? ⟨b, off + i * 5 + 3, none⟩ = some (.int .i64 l[i].fr) ∧ W.cell? ⟨b, off + i * 5 + 4, none⟩ = some (.int .i64 l[i].un)) := by
 obtain⟨A,c,hv,hn,hm,hr⟩:=Rd.open_ (k:=5) (f:=Rel.cells) (fun _=>rfl) (by omega) h
 refine⟨A,c,hv,hn,hm,fun h0=>?_⟩
 obtain⟨b,off,hA,hb,hc⟩:=hr h0
 exact⟨b,off,hA,hb,fun W hW i hi=>⟨by simpa [Rel.cells] using hc W hW i hi 0 (by omega),by simpa [Rel.cells] using hc W hW i hi 1 (by omega),by simpa [Rel.cells] using hc W hW i hi 2 (by omega),by simpa [Rel.cells] using hc W hW i hi 3 (by omega),by simpa [Rel.cells] using hc W hW i hi 4 (by omega)⟩⟩
structure AuC where
 id:Int
 kind:Int
 fr:Int
 un:Int
 nv:Value
 xv:Value
deriving Inhabited
def AuC.cells (x:AuC):List Value:=[.int .i64 x.id,.int .i64 x.kind,.int .i64 x.fr,.int .i64 x.un,x.nv,x.xv]
def AuC.agg (x:AuC):Value:=.agg #[.int .i64 x.id,.int .i64 x.kind,.int .i64 x.fr,.int .i64 x.un,x.nv,x.xv]
def SlA (w:World) (v:Value) (l:List AuC):Prop:=Rd w 6 v (l.flatMap AuC.cells)
theorem SlA.mono {w w':World} {v:Value} {l:List AuC} (h:SlA w v l) (hg:Grew w w'):SlA w' v l:=Rd.mono h hg
theorem SlA.nil (w:World):SlA w (.slice none 0 0) []:=Rd.nil w _
theorem SlA.open_ {w : World} {v : Value} {l : List AuC} (h : SlA w v l) : ∃ (A : Option Addr) (c : Nat), v = .slice A l.length c ∧ l.length ≤ c ∧ c ≤ maxLen ∧
      (0 < l.length → ∃ b off, A = some ⟨b, off, none⟩ ∧ b < w.heap.size ∧ ∀ W, Grew w W → ∀ i (hi : i < l.length), W.cell? ⟨b, off + i * 6, none⟩ = some (.int .i64 l[i].id) ∧ W.cell? ⟨b, off + i * 6 + 1, none⟩ = some (.int .i64 l[i].kind) ∧ W.cell? ⟨b, off + i * 6 + 2, none⟩ = some (.int .i64 l[i].fr) ∧ W.cell? ⟨b, off + i * 6 + 3, none⟩ = some (.int .i64 l[i].un) ∧ W.cell? ⟨b, off + i * 6 + 4, none⟩ = some (l[i].nv) ∧ W.cell? ⟨b, off + i * 6 + 5, none⟩ = some (l[i].xv)) := by
 obtain⟨A,c,hv,hn,hm,hr⟩:=Rd.open_ (k:=6) (f:=AuC.cells) (fun _=>rfl) (by omega) h
 refine⟨A,c,hv,hn,hm,fun h0=>?_⟩
 obtain⟨b,off,hA,hb,hc⟩:=hr h0
 exact⟨b,off,hA,hb,fun W hW i hi=>⟨by simpa [AuC.cells] using hc W hW i hi 0 (by omega),by simpa [AuC.cells] using hc W hW i hi 1 (by omega),by simpa [AuC.cells] using hc W hW i hi 2 (by omega),by simpa [AuC.cells] using hc W hW i hi 3 (by omega),by simpa [AuC.cells] using hc W hW i hi 4 (by omega),by simpa [AuC.cells] using hc W hW i hi 5 (by omega)⟩⟩
structure BrC where
 id:Int
 parent:Int
 level:Int
 title:ByteArray
 mark:ByteArray
 kv:Value
deriving Inhabited
def BrC.cells (x:BrC):List Value:=[.int .i64 x.id,.int .i64 x.parent,.int .i64 x.level,.string x.title,.string x.mark,x.kv]
def BrC.agg (x:BrC):Value:=.agg #[.int .i64 x.id,.int .i64 x.parent,.int .i64 x.level,.string x.title,.string x.mark,x.kv]
def SlB (w:World) (v:Value) (l:List BrC):Prop:=Rd w 6 v (l.flatMap BrC.cells)
theorem SlB.mono {w w':World} {v:Value} {l:List BrC} (h:SlB w v l) (hg:Grew w w'):SlB w' v l:=Rd.mono h hg
theorem SlB.nil (w:World):SlB w (.slice none 0 0) []:=Rd.nil w _
theorem SlB.open_ {w : World} {v : Value} {l : List BrC} (h : SlB w v l) : ∃ (A : Option Addr) (c : Nat), v = .slice A l.length c ∧ l.length ≤ c ∧ c ≤ maxLen ∧
      (0 < l.length → ∃ b off, A = some ⟨b, off, none⟩ ∧ b < w.heap.size ∧ ∀ W, Grew w W → ∀ i (hi : i < l.length), W.cell? ⟨b, off + i * 6, none⟩ = some (.int .i64 l[i].id) ∧ W.cell? ⟨b, off + i * 6 + 1, none⟩ = some (.int .i64 l[i].parent) ∧ W.cell? ⟨b, off + i * 6 + 2, none⟩ = some (.int .i64 l[i].level) ∧ W.cell? ⟨b, off + i * 6 + 3, none⟩ = some (.string l[i].title) ∧ W.cell? ⟨b, off + i * 6 + 4, none⟩ = some (.string l[i].mark) ∧ W.cell? ⟨b, off + i * 6 + 5, none⟩ = some (l[i].kv)) := by
 obtain⟨A,c,hv,hn,hm,hr⟩:=Rd.open_ (k:=6) (f:=BrC.cells) (fun _=>rfl) (by omega) h
 refine⟨A,c,hv,hn,hm,fun h0=>?_⟩
 obtain⟨b,off,hA,hb,hc⟩:=hr h0
 exact⟨b,off,hA,hb,fun W hW i hi=>⟨by simpa [BrC.cells] using hc W hW i hi 0 (by omega),by simpa [BrC.cells] using hc W hW i hi 1 (by omega),by simpa [BrC.cells] using hc W hW i hi 2 (by omega),by simpa [BrC.cells] using hc W hW i hi 3 (by omega),by simpa [BrC.cells] using hc W hW i hi 4 (by omega),by simpa [BrC.cells] using hc W hW i hi 5 (by omega)⟩⟩
end Go.Proofs.YtdochkemaiokfaaGreat
/- Authorities and branches with the lists that they lead to, and how they lie in memory. No condition. -/
namespace Go.Proofs.YtdochkemaiokfaaGreat
open Go.RowKit
structure Auth where
 id:Int
 kind:Int
 fr:Int
 un:Int
 names:List Nam
 next:List Int
deriving DecidableEq,Inhabited
structure Br where
 id:Int
 parent:Int
 level:Int
 title:ByteArray
 mark:ByteArray
 kids:List Int
deriving DecidableEq,Inhabited
structure Tr where
 roots:List Int
 brs:List Br
deriving DecidableEq,Inhabited
def Auth.c (a:Auth) (nv xv:Value):AuC:=⟨a.id,a.kind,a.fr,a.un,nv,xv⟩
def AuOk (w:World) (c:AuC) (a:Auth):Prop:=c=a.c c.nv c.xv∧SlN w c.nv a.names∧SlI w c.xv a.next
def SlAu (w:World) (v:Value) (l:List Auth):Prop:=∃ cs:List AuC,SlA w v cs∧cs.length=l.length∧∀ i (h:i<cs.length) (h':i<l.length),AuOk w cs[i] l[i]
def Br.c (a:Br) (kv:Value):BrC:=⟨a.id,a.parent,a.level,a.title,a.mark,kv⟩
def BrOk (w:World) (c:BrC) (a:Br):Prop:=c=a.c c.kv∧SlI w c.kv a.kids
def SlBr (w:World) (v:Value) (l:List Br):Prop:=∃ cs:List BrC,SlB w v cs∧cs.length=l.length∧∀ i (h:i<cs.length) (h':i<l.length),BrOk w cs[i] l[i]
def TrOk (w:World) (rv bv:Value) (t:Tr):Prop:=SlI w rv t.roots∧SlBr w bv t.brs
theorem AuOk.mono {w w':World} {c:AuC} {a:Auth} (h:AuOk w c a) (hg:Grew w w'):AuOk w' c a:=⟨h.1,h.2.1.mono hg,h.2.2.mono hg⟩
theorem SlAu.mono {w w':World} {v:Value} {l:List Auth} (h:SlAu w v l) (hg:Grew w w'):SlAu w' v l:=by
 obtain⟨cs,h1,h2,h3⟩:=h
 exact⟨cs,h1.mono hg,h2,fun i h h'=>(h3 i h h').mono hg⟩
theorem SlAu.nil (w:World):SlAu w (.slice none 0 0) []:=⟨[],SlA.nil w,rfl,fun _ h=>absurd h (Nat.not_lt_zero _)⟩
theorem BrOk.mono {w w':World} {c:BrC} {a:Br} (h:BrOk w c a) (hg:Grew w w'):BrOk w' c a:=⟨h.1,h.2.mono hg⟩
theorem SlBr.mono {w w':World} {v:Value} {l:List Br} (h:SlBr w v l) (hg:Grew w w'):SlBr w' v l:=by
 obtain⟨cs,h1,h2,h3⟩:=h
 exact⟨cs,h1.mono hg,h2,fun i h h'=>(h3 i h h').mono hg⟩
theorem SlBr.nil (w:World):SlBr w (.slice none 0 0) []:=⟨[],SlB.nil w,rfl,fun _ h=>absurd h (Nat.not_lt_zero _)⟩
theorem TrOk.mono {w w':World} {rv bv:Value} {t:Tr} (h:TrOk w rv bv t) (hg:Grew w w'):TrOk w' rv bv t:=⟨h.1.mono hg,h.2.mono hg⟩
theorem SlAu.open_ {w:World} {v:Value} {l:List Auth} (h:SlAu w v l):∃(A:Option Addr) (c:Nat),v=.slice A l.length c∧l.length≤c∧c≤maxLen ∧
  (0<l.length→∃ b off,A=some ⟨b,off,none⟩∧b<w.heap.size∧∀ i (hi:i<l.length),∃ nv xv,SlN w nv l[i].names∧SlI w xv l[i].next ∧
   ∀ W,Grew w W→W.cell? ⟨b,off+i*6,none⟩=some (.int .i64 l[i].id)∧W.cell? ⟨b,off+i*6+1,none⟩=some (.int .i64 l[i].kind)∧W.cell? ⟨b,off+i*6+2,none⟩=some (.int .i64 l[i].fr)∧W.cell? ⟨b,off+i*6+3,none⟩=some (.int .i64 l[i].un)∧W.cell? ⟨b,off+i*6+4,none⟩=some nv∧W.cell? ⟨b,off+i*6+5,none⟩=some xv):=by
 obtain⟨cs,h1,h2,h3⟩:=h
 obtain⟨A,c,hv,hn,hm,hr⟩:=h1.open_
 refine⟨A,c,by rw[← h2];exact hv,by omega,hm,fun h0=>?_⟩
 obtain⟨b,off,hA,hb,hc⟩:=hr (by omega)
 refine⟨b,off,hA,hb,fun i hi=>?_⟩
 obtain⟨k1,k2,k3⟩:=h3 i (by omega) hi
 refine⟨_,_,k2,k3,fun W hW=>?_⟩
 obtain⟨e0,e1,e2,e3,e4,e5⟩:=hc W hW i (by omega)
 have q0:=congrArg AuC.id k1
 have q1:=congrArg AuC.kind k1
 have q2:=congrArg AuC.fr k1
 have q3:=congrArg AuC.un k1
 simp only [Auth.c] at q0 q1 q2 q3
 rw[q0] at e0
 rw[q1] at e1
 rw[q2] at e2
 rw[q3] at e3
 exact⟨e0,e1,e2,e3,e4,e5⟩
theorem SlBr.open_ {w:World} {v:Value} {l:List Br} (h:SlBr w v l):∃(A:Option Addr) (c:Nat),v=.slice A l.length c∧l.length≤c∧c≤maxLen ∧
  (0<l.length→∃ b off,A=some ⟨b,off,none⟩∧b<w.heap.size∧∀ i (hi:i<l.length),∃ kv,SlI w kv l[i].kids ∧
   ∀ W,Grew w W→W.cell? ⟨b,off+i*6,none⟩=some (.int .i64 l[i].id)∧W.cell? ⟨b,off+i*6+1,none⟩=some (.int .i64 l[i].parent)∧W.cell? ⟨b,off+i*6+2,none⟩=some (.int .i64 l[i].level)∧W.cell? ⟨b,off+i*6+3,none⟩=some (.string l[i].title)∧W.cell? ⟨b,off+i*6+4,none⟩=some (.string l[i].mark)∧W.cell? ⟨b,off+i*6+5,none⟩=some kv):=by
 obtain⟨cs,h1,h2,h3⟩:=h
 obtain⟨A,c,hv,hn,hm,hr⟩:=h1.open_
 refine⟨A,c,by rw[← h2];exact hv,by omega,hm,fun h0=>?_⟩
 obtain⟨b,off,hA,hb,hc⟩:=hr (by omega)
 refine⟨b,off,hA,hb,fun i hi=>?_⟩
 obtain⟨k1,k2⟩:=h3 i (by omega) hi
 refine⟨_,k2,fun W hW=>?_⟩
 obtain⟨e0,e1,e2,e3,e4,e5⟩:=hc W hW i (by omega)
 have q0:=congrArg BrC.id k1
 have q1:=congrArg BrC.parent k1
 have q2:=congrArg BrC.level k1
 have q3:=congrArg BrC.title k1
 have q4:=congrArg BrC.mark k1
 simp only [Br.c] at q0 q1 q2 q3 q4
 rw[q0] at e0
 rw[q1] at e1
 rw[q2] at e2
 rw[q3] at e3
 rw[q4] at e4
 exact⟨e0,e1,e2,e3,e4,e5⟩
theorem idxFrom_rel {α β:Type} {p:α→Bool} {q:β→Bool}:∀(l:List α) (m:List β) (j:Nat),l.length=m.length→(∀ i (h:i<l.length) (h':i<m.length),p l[i]=q m[i])→idxFrom p l j=idxFrom q m j
 | [],[],_,_,_=>rfl
 | [],_::_,_,h,_=>by simp at h
 | _::_,[],_,h,_=>by simp at h
 | x::l,y::m,j,h,hr=>by
  have h0:=hr 0 (by simp) (by simp)
  simp only [List.getElem_cons_zero] at h0
  rw[idxFrom,idxFrom,h0,idxFrom_rel l m (j+1) (by simpa using h) (fun i h1 h2=>hr (i+1) (Nat.succ_lt_succ h1) (Nat.succ_lt_succ h2))]
theorem idxP_rel {α β:Type} {p:α→Bool} {q:β→Bool} (l:List α) (m:List β) (h:l.length=m.length) (hr:∀ i (h:i<l.length) (h':i<m.length),p l[i]=q m[i]):idxP p l=idxP q m:=idxFrom_rel l m 0 h hr
end Go.Proofs.YtdochkemaiokfaaGreat
/- Names and marks, plainly: what the search for a strange sign finds. No condition. -/
namespace Go.Proofs.YtdochkemaiokfaaGreat
open Go.RowKit
theorem dec_lo (s:ByteArray) (pos:Nat) (h:(s.get! pos).toNat<128):Utf8.decode s pos=((s.get! pos).toNat,1):=by
 unfold Utf8.decode
 simp only [Nat.add_zero]
 rw[if_pos h]
theorem dec_hi (s:ByteArray) (pos:Nat) (h:128≤(s.get! pos).toNat):128≤(Utf8.decode s pos).1:=by
 unfold Utf8.decode
 simp only [Nat.add_zero]
 rw[if_neg (by omega)]
 have he:128≤Utf8.runeError:=by decide
 split
 ·split
  ·rename_i h2;exact h2
  ·exact he
 ·split
  ·split
   ·rename_i h2
    simp only [Bool.and_eq_true,decide_eq_true_eq] at h2
    show 128≤_
    omega
   ·exact he
  ·split
   ·split
    ·rename_i h2
     simp only [Bool.and_eq_true,decide_eq_true_eq] at h2
     show 128≤_
     omega
    ·exact he
   ·exact he
def strange (lo hi:Nat) (r:Nat):Bool:=decide (r<lo) || decide (hi<r)
theorem idxFrom_strange (lo hi:Nat) (hhi:hi<128) (s:ByteArray):∀(f pos:Nat),s.size≤pos+f→(0≤Lib.idxFuncFrom (strange lo hi) true s f pos↔∃ j,pos≤j∧j<s.size∧strange lo hi (s.get! j).toNat=true)
 | 0,pos,h=>by
  constructor
  ·intro h2
   simp[Lib.idxFuncFrom] at h2
  ·rintro ⟨j,h1,h2,_⟩
   omega
 | f+1,pos,h=>by
  rw[Lib.idxFuncFrom]
  by_cases hp:pos<s.size
  ·rw[if_pos hp]
   by_cases hb:(s.get! pos).toNat<128
   ·rw[dec_lo s pos hb]
    by_cases hs:strange lo hi (s.get! pos).toNat=true
    ·rw[if_pos hs]
     exact⟨fun _=>⟨pos,Nat.le_refl _,hp,hs⟩,fun _=>by omega⟩
    ·rw[if_neg hs,idxFrom_strange lo hi hhi s f (pos+1) (by omega)]
     constructor
     ·rintro ⟨j,h1,h2,h3⟩
      exact⟨j,by omega,h2,h3⟩
     ·rintro ⟨j,h1,h2,h3⟩
      by_cases e:j=pos
      ·subst e
       exact absurd h3 hs
      ·exact⟨j,by omega,h2,h3⟩
   ·have hd:=dec_hi s pos (by omega)
    have hs:strange lo hi (Utf8.decode s pos).1=true:=by
     simp only [strange,Bool.or_eq_true,decide_eq_true_eq]
     omega
    rw[if_pos hs]
    refine⟨fun _=>⟨pos,Nat.le_refl _,hp,?_⟩,fun _=>by omega⟩
    simp only [strange,Bool.or_eq_true,decide_eq_true_eq]
    omega
  ·rw[if_neg hp]
   constructor
   ·intro h2
    simp at h2
   ·rintro ⟨j,h1,h2,_⟩
    omega
def allIn (lo hi:Nat) (l:List UInt8):Bool:=l.all fun b=>decide (lo≤b.toNat) && decide (b.toNat≤hi)
theorem idx_strange (lo hi:Nat) (hhi:hi<128) (s:ByteArray):decide (0≤Lib.idxFunc (strange lo hi) true s) = !allIn lo hi s.data.toList:=by
 rw[Bool.eq_iff_iff,decide_eq_true_eq,Lib.idxFunc,idxFrom_strange lo hi hhi s s.size 0 (by omega)]
 simp only [Bool.not_eq_true',allIn,List.all_eq_false]
 have hg:∀ j (h:j<s.size),s.get! j=s.data.toList[j]'(by simpa using h):=fun j h=>by
  have h':j<s.data.size:=h
  rw[Array.getElem_toList]
  show s.data[j]! = _
  rw[getElem!_pos s.data j h']
 constructor
 ·rintro ⟨j,_,h2,h3⟩
  refine⟨_,List.getElem_mem (by simpa using h2),?_⟩
  rw[← hg j h2]
  simp only [strange,Bool.or_eq_true,decide_eq_true_eq] at h3
  simp only [Bool.and_eq_true,decide_eq_true_eq]
  omega
 ·rintro ⟨b,hb,h3⟩
  obtain⟨j,hj,rfl⟩:=List.mem_iff_getElem.1 hb
  have hj':j<s.size:=by simpa using hj
  refine⟨j,by omega,hj',?_⟩
  rw[hg j hj']
  simp only [Bool.and_eq_true,decide_eq_true_eq] at h3
  simp only [strange,Bool.or_eq_true,decide_eq_true_eq]
  omega
def nameF (l:List UInt8):Bool:=decide (1≤l.length∧l.length≤64) && (!(l.head? == some 32) && (!(l.getLast? == some 32) && (!Lib.contains l [32,32] && allIn 32 126 l)))
def markF (l:List UInt8):Bool:=decide (1≤l.length∧l.length≤64) && allIn 33 126 l
end Go.Proofs.YtdochkemaiokfaaGreat
/- What is right of authorities and relations, plainly. No condition. -/
namespace Go.Proofs.YtdochkemaiokfaaGreat
open Go.RowKit
def within (n lo hi:Int):Bool:=decide (lo≤n) && decide (n≤hi)
def spansF (fr un:Int):Bool:=decide (0≤fr) && (decide (fr<un) && decide (un≤1048576))
theorem within_t {n lo hi:Int}:within n lo hi=true↔lo≤n∧n≤hi:=by simp[within]
def NamOk (a:Auth) (i:Nat) (h:i<a.names.length):Prop :=
 nameF a.names[i].text.data.toList=true∧spansF a.names[i].fr a.names[i].un=true∧a.fr≤a.names[i].fr∧a.names[i].un≤a.un∧(0<i→(a.names[i-1]'(by omega)).un≤a.names[i].fr)
def NamesOk (a:Auth):Prop:=(1≤a.names.length∧a.names.length≤16)∧∀ i (h:i<a.names.length),NamOk a i h
def NextOk (l:List Int):Prop:=l.length≤16∧∀ k (h:k<l.length),1≤k→(l[k-1]'(by omega))<l[k]
def AuAlone (l:List Auth) (i:Nat) (h:i<l.length):Prop :=
 within l[i].id 1 1073741824=true∧within l[i].kind 1 3=true∧spansF l[i].fr l[i].un=true∧(0<i→(l[i-1]'(by omega)).id<l[i].id)∧NamesOk l[i]∧NextOk l[i].next
def auFind (l:List Auth) (id:Int):Option Auth:=l.find? fun a=>a.id == id
def SuccOk (l:List Auth) (a:Auth):Prop:=∀ n∈a.next,∃ b,auFind l n=some b∧b.kind=a.kind∧b.fr=a.un
def AuthRight (l:List Auth):Prop:=l.length≤64∧(∀ i (h:i<l.length),AuAlone l i h)∧∀ i (h:i<l.length),SuccOk l l[i]
instance (a:Auth) (i:Nat) (h:i<a.names.length):Decidable (NamOk a i h):=by unfold NamOk;infer_instance
instance (a:Auth):Decidable (NamesOk a):=by unfold NamesOk;infer_instance
instance (l:List Int):Decidable (NextOk l):=by unfold NextOk;infer_instance
instance (l:List Auth) (i:Nat) (h:i<l.length):Decidable (AuAlone l i h):=by unfold AuAlone;infer_instance
instance (l:List Auth) (n k u:Int):Decidable (∃ b,auFind l n=some b∧b.kind=k∧b.fr=u) :=
 decidable_of_iff (((auFind l n).map fun b=>decide (b.kind=k∧b.fr=u))=some true) (by cases auFind l n<;>simp)
instance (l:List Auth) (a:Auth):Decidable (SuccOk l a):=by unfold SuccOk;infer_instance
instance (l:List Auth):Decidable (AuthRight l):=by unfold AuthRight;infer_instance
end Go.Proofs.YtdochkemaiokfaaGreat
/-
  DERIVED: THE SHELF's CONTRACTS AT THIS DUMP, IN PLAIN WORDS (tools/lay-plain.mjs out of 'YtdochkemaiokfaaGreatShelf.lean', which tools/lay-shelf.mjs wrote): THE SAME DECLARATIONS UNDER THE SAME NAMES: 'import', 'namespace', 'open', 'def', 'theorem' AND NOTHING ELSE: no command of the shelf's: FOR A HAND-IN. Each laying: the table of numbers ('.._ren') and one theorem, a field a fact of the dump's own or the kernel's comparison; each contract: ONE APPLICATION.
-/
namespace Go.Proofs
open Go.Shelf
def Tryz.lays106_ren:Go.Shelf.Ren:=⟨fun|106=>56|213=>76|265=>117|n=>n,fun|9=>9|3=>3|n=>n,fun|n=>n⟩
theorem Tryz.lays106:Go.Proofs.Lays.n106 Tryz.prog Tryz.lays106_ren:={
 mixed:=by kernel_rfl
 f106:=Tryz.func56.trans (congrArg some (by kernel_rfl))
 f213:=Tryz.func76.trans (congrArg some (by kernel_rfl))
 f265:=Tryz.func117.trans (congrArg some (by kernel_rfl))
 t3:=Tryz.underlying3
 a3:=Tryz.isAgg3
 z3:=Tryz.sizeOf3
 v3:=Tryz.zeroValue3
 t9:=Tryz.underlying9
 a9:=Tryz.isAgg9
 z9:=Tryz.sizeOf9
 v9:=Tryz.zeroValue9 }
open Go.RowKit in
theorem Tryz.strings_Compare (a b:ByteArray) (w:World) :
  Calls Tryz.prog 56 #[.string a,.string b] w fun e w'=>e=.returned (.int .i64 (Lib.compareBytes a.data.toList b.data.toList))∧w'=w:=Any.strings_Compare Tryz.lays106 a b w
def Tryz.lays122_ren:Go.Shelf.Ren:=⟨fun|122=>73|215=>106|n=>n,fun|3=>3|4=>4|n=>n,fun|n=>n⟩
theorem Tryz.lays122:Go.Proofs.Lays.n122 Tryz.prog Tryz.lays122_ren:={
 mixed:=by kernel_rfl
 f122:=Tryz.func73.trans (congrArg some (by kernel_rfl))
 f215:=Tryz.func106.trans (congrArg some (by kernel_rfl))
 t3:=Tryz.underlying3
 a3:=Tryz.isAgg3
 z3:=Tryz.sizeOf3
 v3:=Tryz.zeroValue3
 t4:=Tryz.underlying4
 a4:=Tryz.isAgg4
 z4:=Tryz.sizeOf4
 v4:=Tryz.zeroValue4 }
open Go.RowKit in
theorem Tryz.cmp_Compare_int (x y:Int) (w:World) :
  Calls Tryz.prog 73 #[.int .i64 x,.int .i64 y] w fun e w'=>e=.returned (.int .i64 (Lib.compareInt x y))∧w'=w:=Any.cmp_Compare_int Tryz.lays122 x y w
def Tryz.lays144_ren:Go.Shelf.Ren:=⟨fun|144=>192|143=>227|219=>241|217=>250|225=>251|224=>252|267=>253|266=>256|314=>257|n=>n,fun|9=>9|4=>4|3=>3|5=>5|46=>108|146=>229|51=>138|n=>n,fun|1=>0|n=>n⟩
theorem Tryz.lays144:Go.Proofs.Lays.n144 Tryz.prog Tryz.lays144_ren:={
 mixed:=by kernel_rfl
 f143:=Tryz.func227.trans (congrArg some (by kernel_rfl))
 f144:=Tryz.func192.trans (congrArg some (by kernel_rfl))
 f217:=Tryz.func250.trans (congrArg some (by kernel_rfl))
 f219:=Tryz.func241.trans (congrArg some (by kernel_rfl))
 f224:=Tryz.func252.trans (congrArg some (by kernel_rfl))
 f225:=Tryz.func251.trans (congrArg some (by kernel_rfl))
 f266:=Tryz.func256.trans (congrArg some (by kernel_rfl))
 f267:=Tryz.func253.trans (congrArg some (by kernel_rfl))
 f314:=Tryz.func257.trans (congrArg some (by kernel_rfl))
 t3:=Tryz.underlying3
 a3:=Tryz.isAgg3
 z3:=Tryz.sizeOf3
 v3:=Tryz.zeroValue3
 t4:=Tryz.underlying4
 a4:=Tryz.isAgg4
 z4:=Tryz.sizeOf4
 v4:=Tryz.zeroValue4
 t5:=Tryz.underlying5
 a5:=Tryz.isAgg5
 z5:=Tryz.sizeOf5
 v5:=Tryz.zeroValue5
 t9:=Tryz.underlying9
 a9:=Tryz.isAgg9
 z9:=Tryz.sizeOf9
 v9:=Tryz.zeroValue9
 t46:=Tryz.underlying108
 a46:=Tryz.isAgg108
 z46:=Tryz.sizeOf108
 v46:=Tryz.zeroValue108
 t51:=Tryz.underlying138
 a51:=Tryz.isAgg138
 z51:=Tryz.sizeOf138
 v51:=Tryz.zeroValue138
 t146:=Tryz.underlying229
 a146:=Tryz.isAgg229
 z146:=Tryz.sizeOf229
 v146:=Tryz.zeroValue229
 g1:=by kernel_rfl }
open Go.RowKit Go.Lib in
theorem Tryz.strings_Contains (s sub:ByteArray) (m:Int) (w:World) (hs:s.size<4294967281) (hm:w.cell? ⟨0,0,none⟩=some (.int .i64 m)) :
  Calls Tryz.prog 192 #[.string s,.string sub] w fun e w'=>e=.returned (.bool (Lib.contains s.data.toList sub.data.toList))∧w'=w:=Any.strings_Contains Tryz.lays144 s sub m w hs hm
def Tryz.lays189_ren:Go.Shelf.Ren:=⟨fun|189=>244|125=>75|257=>255|128=>115|129=>116|294=>258|295=>259|296=>260|297=>261|298=>262|299=>263|216=>264|300=>265|301=>266|328=>267|329=>166|330=>167|331=>268|332=>269|215=>106|343=>270|n=>n,fun|28=>38|3=>3|46=>108|0=>0|51=>138|53=>140|4=>4|183=>132|182=>131|131=>117|5=>5|9=>9|218=>175|222=>179|228=>206|229=>207|n=>n,fun|n=>n⟩
theorem Tryz.lays189:Go.Proofs.Lays.n189 Tryz.prog Tryz.lays189_ren:={
 mixed:=by kernel_rfl
 f125:=Tryz.func75.trans (congrArg some (by kernel_rfl))
 f128:=Tryz.func115.trans (congrArg some (by kernel_rfl))
 f129:=Tryz.func116.trans (congrArg some (by kernel_rfl))
 f189:=Tryz.func244.trans (congrArg some (by kernel_rfl))
 f215:=Tryz.func106.trans (congrArg some (by kernel_rfl))
 f216:=Tryz.func264.trans (congrArg some (by kernel_rfl))
 f257:=Tryz.func255.trans (congrArg some (by kernel_rfl))
 f294:=Tryz.func258.trans (congrArg some (by kernel_rfl))
 f295:=Tryz.func259.trans (congrArg some (by kernel_rfl))
 f296:=Tryz.func260.trans (congrArg some (by kernel_rfl))
 f297:=Tryz.func261.trans (congrArg some (by kernel_rfl))
 f298:=Tryz.func262.trans (congrArg some (by kernel_rfl))
 f299:=Tryz.func263.trans (congrArg some (by kernel_rfl))
 f300:=Tryz.func265.trans (congrArg some (by kernel_rfl))
 f301:=Tryz.func266.trans (congrArg some (by kernel_rfl))
 f328:=Tryz.func267.trans (congrArg some (by kernel_rfl))
 f329:=Tryz.func166.trans (congrArg some (by kernel_rfl))
 f330:=Tryz.func167.trans (congrArg some (by kernel_rfl))
 f331:=Tryz.func268.trans (congrArg some (by kernel_rfl))
 f332:=Tryz.func269.trans (congrArg some (by kernel_rfl))
 f343:=Tryz.func270.trans (congrArg some (by kernel_rfl))
 t0:=Tryz.underlying0
 a0:=Tryz.isAgg0
 z0:=Tryz.sizeOf0
 v0:=Tryz.zeroValue0
 t3:=Tryz.underlying3
 a3:=Tryz.isAgg3
 z3:=Tryz.sizeOf3
 v3:=Tryz.zeroValue3
 t4:=Tryz.underlying4
 a4:=Tryz.isAgg4
 z4:=Tryz.sizeOf4
 v4:=Tryz.zeroValue4
 t5:=Tryz.underlying5
 a5:=Tryz.isAgg5
 z5:=Tryz.sizeOf5
 v5:=Tryz.zeroValue5
 t9:=Tryz.underlying9
 a9:=Tryz.isAgg9
 z9:=Tryz.sizeOf9
 v9:=Tryz.zeroValue9
 t28:=Tryz.underlying38
 a28:=Tryz.isAgg38
 z28:=Tryz.sizeOf38
 v28:=Tryz.zeroValue38
 t46:=Tryz.underlying108
 a46:=Tryz.isAgg108
 z46:=Tryz.sizeOf108
 v46:=Tryz.zeroValue108
 t51:=Tryz.underlying138
 a51:=Tryz.isAgg138
 z51:=Tryz.sizeOf138
 v51:=Tryz.zeroValue138
 t53:=Tryz.underlying140
 a53:=Tryz.isAgg140
 z53:=Tryz.sizeOf140
 v53:=Tryz.zeroValue140
 t131:=Tryz.underlying117
 a131:=Tryz.isAgg117
 z131:=Tryz.sizeOf117
 v131:=Tryz.zeroValue117
 t182:=Tryz.underlying131
 a182:=Tryz.isAgg131
 z182:=Tryz.sizeOf131
 v182:=Tryz.zeroValue131
 t183:=Tryz.underlying132
 a183:=Tryz.isAgg132
 z183:=Tryz.sizeOf132
 v183:=Tryz.zeroValue132
 t218:=Tryz.underlying175
 a218:=Tryz.isAgg175
 z218:=Tryz.sizeOf175
 v218:=Tryz.zeroValue175
 t222:=Tryz.underlying179
 a222:=Tryz.isAgg179
 z222:=Tryz.sizeOf179
 v222:=Tryz.zeroValue179
 t228:=Tryz.underlying206
 a228:=Tryz.isAgg206
 z228:=Tryz.sizeOf206
 v228:=Tryz.zeroValue206
 t229:=Tryz.underlying207
 a229:=Tryz.isAgg207
 z229:=Tryz.sizeOf207
 v229:=Tryz.zeroValue207 }
open Go.Sort Go.RowKit in
theorem Tryz.slices_Sort_int (blk off cap:Nat) (zs:List Int) (w:World) (hH:Holds (Value.int .i64) w blk off zs.toArray) (hblk:blk<w.heap.size) (hsz:zs.length<4611686018427387904) :
  Calls Tryz.prog 244 #[.slice (some ⟨blk,off,none⟩) zs.length cap] w fun e w' =>
   e=.returned (.tuple #[])∧∃ n os,w'=grow (putRow (Value.int .i64) (Sort.ahead w n) blk off (zs.mergeSort fun x y=>decide (x≤y)).toArray) os:=Any.slices_Sort_int Tryz.lays189 blk off cap zs w hH hblk hsz
def Tryz.laysGw17_ren:Go.Shelf.Ren:=⟨fun|17=>193|15=>228|20=>242|n=>n,fun|9=>9|23=>197|4=>4|3=>3|0=>0|21=>21|n=>n,fun|n=>n⟩
theorem Tryz.laysGw17:Go.Proofs.LaysGw.n17 Tryz.prog Tryz.laysGw17_ren:={
 mixed:=by kernel_rfl
 f15:=Tryz.func228.trans (congrArg some (by kernel_rfl))
 f17:=Tryz.func193.trans (congrArg some (by kernel_rfl))
 f20:=Tryz.func242.trans (congrArg some (by kernel_rfl))
 t0:=Tryz.underlying0
 a0:=Tryz.isAgg0
 z0:=Tryz.sizeOf0
 v0:=Tryz.zeroValue0
 i0:=by kernel_rfl
 t3:=Tryz.underlying3
 a3:=Tryz.isAgg3
 z3:=Tryz.sizeOf3
 v3:=Tryz.zeroValue3
 i3:=by kernel_rfl
 t4:=Tryz.underlying4
 a4:=Tryz.isAgg4
 z4:=Tryz.sizeOf4
 v4:=Tryz.zeroValue4
 i4:=by kernel_rfl
 t9:=Tryz.underlying9
 a9:=Tryz.isAgg9
 z9:=Tryz.sizeOf9
 v9:=Tryz.zeroValue9
 i9:=by kernel_rfl
 t21:=Tryz.underlying21
 a21:=Tryz.isAgg21
 z21:=Tryz.sizeOf21
 v21:=Tryz.zeroValue21
 i21:=by kernel_rfl
 t23:=Tryz.underlying197
 a23:=Tryz.isAgg197
 z23:=Tryz.sizeOf197
 v23:=Tryz.zeroValue197
 i23:=by kernel_rfl }
open Go.RowKit Go.Lib in
theorem Tryz.strings_ContainsFunc_grows (g:Nat) (lb:Array Value) (eg:∀ args w,(callFunc g args).run Tryz.prog w=.ok (.enter g args) w) (p:Nat→Bool) (s:ByteArray) (w:World) (hp:PredGrows Tryz.prog g lb p w) :
  Calls Tryz.prog 193 #[.string s,.func (.func g) #[] lb] w fun e w'=>e=.returned (.bool (decide (0≤Lib.idxFunc p true s)))∧Below w.heap.size w w':=Any.strings_ContainsFunc_grows Tryz.laysGw17 g lb eg p s w hp
open Go.RowKit Go.Sort in
theorem Tryz.slices_Sort_int_none (p:Option Addr) (cap:Nat) (w:World) :
  Calls Tryz.prog 244 #[.slice p 0 cap] w fun e w'=>e=.returned (.tuple #[])∧w'=w:=Any.slices_Sort_int_none Tryz.lays189 p cap w
end Go.Proofs
/- The small functions that several packages repeat, walked. The condition on names: the library's own variable holds a number. -/
namespace Go.Proofs.YtdochkemaiokfaaGreat
open Go.RowKit
def Env (w:World):Prop:=(∃ m:Int,w.cell? ⟨0,0,none⟩=some (.int .i64 m))∧∀ g,Tryz.prog.globalNamed "internal/strconv.uint64pow10" = some g→Lib.TabIs Tryz.prog w "internal/strconv.uint64pow10" .u64 Lib.pow10Tab
theorem Env.mono {w w':World} (h:Env w) (hg:Grew w w'):Env w':=by
 obtain⟨⟨m,hm⟩,ht⟩:=h
 exact⟨⟨m,(hg.cell (p:=⟨0,0,none⟩) (World.block_lt_of_cell? w _ hm)).trans hm⟩,fun g e=>(Lib.tabBelow_of_tabIs (ht g e)) w' hg⟩
theorem size_data (s:ByteArray):s.data.toList.length=s.size:=by cases s;rfl
theorem head_at (s:ByteArray) (h:0<s.size):s.data.toList.head? = some s[0]:=by
 rw[List.head?_eq_getElem?,List.getElem?_eq_getElem (by rw[size_data];exact h)];rfl
theorem last_at (s:ByteArray) (h:s.size-1<s.size):s.data.toList.getLast? = some s[s.size-1]:=by
 rw[List.getLast?_eq_getElem?,List.getElem?_eq_getElem (by rw[size_data];exact h)]
 simp only [size_data]
 rfl
theorem is32 (b:UInt8):(some b == some (32:UInt8))=((b.toNat:Int) == 32):=by
 rw[Bool.eq_iff_iff,beq_iff_eq,beq_iff_eq,Option.some.injEq,← UInt8.toNat_inj]
 have h2:(32:UInt8).toNat=32:=rfl
 omega
theorem tWithin (n lo hi:Int) (w:World):Calls Tryz.prog 215 #[.int .i64 n,.int .i64 lo,.int .i64 hi] w fun e w'=>e=.returned (.bool (within n lo hi))∧w=w':=by
 unfold within
 cases a1:decide (lo≤n)<;>cases a2:decide (n≤hi)
 all_goals
  go_enter Tryz.func215,Tryz.ntmps215
  go_wp2
  go_ret
  exact⟨rfl,rfl⟩
theorem tName1 (x:Nat) (w:World):Calls Tryz.prog 246 (#[.int .i32 (x:Int)] ++ #[]) w fun e w'=>e=.returned (.bool (strange 32 126 x))∧Below w.heap.size w w':=by
 have e1:decide (x<32)=decide ((x:Int)<32):=by simp only [decide_eq_decide];omega
 have e2:decide (126<x)=decide ((126:Int)<(x:Int)):=by simp only [decide_eq_decide];omega
 unfold strange
 rw[e1,e2]
 clear e1 e2
 cases a1:decide ((x:Int)<32)<;>cases a2:decide ((126:Int)<(x:Int))
 all_goals
  go_enter Tryz.func246,Tryz.ntmps246
  go_wp2
  go_ret
  exact⟨rfl,Below.refl _ _⟩
theorem enters_tName1:∀ args w,(callFunc 246 args).run Tryz.prog w=.ok (.enter 246 args) w:=enters_of Tryz.func246 (by kernel_rfl) rfl
theorem tNameAll (s:ByteArray) (w:World):Calls Tryz.prog 193 #[.string s,.func (.func 246) #[] #[]] w fun e w'=>e=.returned (.bool (!allIn 32 126 s.data.toList))∧Grew w w':=by
 rw[← idx_strange 32 126 (by omega) s]
 exact Tryz.strings_ContainsFunc_grows _ #[] enters_tName1 (strange 32 126) s w (fun W x _ _=>tName1 x W)
set_option maxHeartbeats 2000000 in
theorem tName (s:ByteArray) (w:World) (hE:Env w):Calls Tryz.prog 231 #[.string s] w fun e w'=>e=.returned (.bool (nameF s.data.toList))∧Grew w w':=by
 have hsd:=size_data s
 by_cases h0:s.size<1
 ·have hN:nameF s.data.toList=false:=by simp only [nameF,hsd];rw[decide_eq_false (by omega)];rfl
  rw[hN]
  have h0':(s.size:Int)<1:=by omega
  clear hsd hN hE
  go_enter Tryz.func231,Tryz.ntmps231
  go_wp2
  go_ret
  exact⟨rfl,Grew.refl w⟩
 have h0':decide ((s.size:Int)<1)=false:=by simp;omega
 by_cases h1:64<s.size
 ·have hN:nameF s.data.toList=false:=by simp only [nameF,hsd];rw[decide_eq_false (by omega)];rfl
  rw[hN]
  have h1':(64:Int)<(s.size:Int):=by omega
  clear hsd hN hE
  go_enter Tryz.func231,Tryz.ntmps231
  go_wp2
  go_ret
  exact⟨rfl,Grew.refl w⟩
 have h1':decide ((64:Int)<(s.size:Int))=false:=by simp;omega
 have hz0:0<s.size:=by omega
 have hs64:s.size≤64:=by omega
 have hz1:s.size-1<s.size:=by omega
 have hN:nameF s.data.toList=(!((s[0].toNat:Int) == 32) && (!((s[s.size-1].toNat:Int) == 32) && (!Lib.contains s.data.toList [32,32] && allIn 32 126 s.data.toList))):=by
  simp only [nameF,hsd,head_at s hz0,last_at s hz1,is32]
  rw[decide_eq_true (by omega)]
  rfl
 rw[hN]
 have hi1:(0:Int)≤(s.size:Int)-1:=by omega
 have hi2:(s.size:Int)-1<(s.size:Int):=by omega
 obtain⟨⟨m,hm⟩,-⟩:=hE
 have kc:Calls Tryz.prog 192 #[.string s,.string ⟨#[32,32]⟩] w fun e w'=>e=.returned (.bool (Lib.contains s.data.toList [32,32]))∧w=w':=(Tryz.strings_Contains s ⟨#[32,32]⟩ m w (by omega) hm).mono fun _ _ h=>⟨h.1,h.2.symm⟩
 have kf:=tNameAll s w
 generalize Lib.contains s.data.toList [32,32]=c at kc
 generalize allIn 32 126 s.data.toList=al at kf
 have KC:=Lib.hid kc
 have KF:=Lib.hid kf
 clear hsd hN kc kf h0 h1 hm
 cases a1:((s[0].toNat:Int) == 32) with
 | true =>
  go_enter Tryz.func231,Tryz.ntmps231
  go_wp2
  go_ret
  exact⟨rfl,Grew.refl w⟩
 | false =>
 cases a2:((s[s.size-1].toNat:Int) == 32) with
 | true =>
  go_enter Tryz.func231,Tryz.ntmps231
  go_wp2
  go_ret
  exact⟨rfl,Grew.refl w⟩
 | false =>
 cases c with
 | true =>
  go_enter Tryz.func231,Tryz.ntmps231
  go_wp2_with (first|(go_at_call 192;refine KC.out.mono ?_;rintro e w1 ⟨rfl,rfl⟩))
  go_ret
  exact⟨rfl,Grew.refl w⟩
 | false =>
  go_enter Tryz.func231,Tryz.ntmps231
  go_wp2_with (first|(go_at_call 192;refine KC.out.mono ?_;rintro e w1 ⟨rfl,rfl⟩)|(go_at_call 193;refine KF.out.mono ?_;rintro e w2 ⟨rfl,hg⟩))
  go_ret
  exact⟨ret_bool (by simp),hg⟩
theorem tMarks1 (x:Nat) (w:World):Calls Tryz.prog 247 (#[.int .i32 (x:Int)] ++ #[]) w fun e w'=>e=.returned (.bool (strange 33 126 x))∧Below w.heap.size w w':=by
 have e1:decide (x<33)=decide ((x:Int)<33):=by simp only [decide_eq_decide];omega
 have e2:decide (126<x)=decide ((126:Int)<(x:Int)):=by simp only [decide_eq_decide];omega
 unfold strange
 rw[e1,e2]
 clear e1 e2
 cases a1:decide ((x:Int)<33)<;>cases a2:decide ((126:Int)<(x:Int))
 all_goals
  go_enter Tryz.func247,Tryz.ntmps247
  go_wp2
  go_ret
  exact⟨rfl,Below.refl _ _⟩
theorem enters_tMarks1:∀ args w,(callFunc 247 args).run Tryz.prog w=.ok (.enter 247 args) w:=enters_of Tryz.func247 (by kernel_rfl) rfl
theorem tMarksAll (s:ByteArray) (w:World):Calls Tryz.prog 193 #[.string s,.func (.func 247) #[] #[]] w fun e w'=>e=.returned (.bool (!allIn 33 126 s.data.toList))∧Grew w w':=by
 rw[← idx_strange 33 126 (by omega) s]
 exact Tryz.strings_ContainsFunc_grows _ #[] enters_tMarks1 (strange 33 126) s w (fun W x _ _=>tMarks1 x W)
theorem tMarks (s:ByteArray) (w:World):Calls Tryz.prog 232 #[.string s] w fun e w'=>e=.returned (.bool (markF s.data.toList))∧Grew w w':=by
 have hN:markF s.data.toList=(within (s.size:Int) 1 64 && allIn 33 126 s.data.toList):=by
  simp only [markF,size_data,within]
  congr 1
  rw[Bool.eq_iff_iff,decide_eq_true_eq,Bool.and_eq_true,decide_eq_true_eq,decide_eq_true_eq]
  omega
 rw[hN]
 have kw:=tWithin (s.size:Int) 1 64 w
 have kf:=tMarksAll s w
 generalize within (s.size:Int) 1 64=c at kw
 generalize allIn 33 126 s.data.toList=al at kf
 have KW:=Lib.hid kw
 have KF:=Lib.hid kf
 clear kw kf hN
 cases c with
 | false =>
  go_enter Tryz.func232,Tryz.ntmps232
  go_wp2_with (first|(go_at_call 215;refine KW.out.mono ?_;rintro e w1 ⟨rfl,rfl⟩))
  go_ret
  exact⟨rfl,Grew.refl w⟩
 | true =>
  go_enter Tryz.func232,Tryz.ntmps232
  go_wp2_with (first|(go_at_call 215;refine KW.out.mono ?_;rintro e w1 ⟨rfl,rfl⟩)|(go_at_call 193;refine KF.out.mono ?_;rintro e w2 ⟨rfl,hg⟩))
  go_ret
  exact⟨ret_bool (by simp),hg⟩
end Go.Proofs.YtdochkemaiokfaaGreat
/- slices.IndexFunc at numbers, relations, authorities and branches. No condition but that the function that is handed over answers as p does. -/
namespace Go.Proofs.YtdochkemaiokfaaGreat
open Go.RowKit
set_option maxHeartbeats 1000000 in
theorem indexFuncI (l:List Int) (p:Int→Bool) (g:Nat) (lb:Array Value) (eg:∀ args w,(callFunc g args).run Tryz.prog w=.ok (.enter g args) w) (v:Value) (w:World) (hv:SlI w v l)
  (hp:∀ W x,Grew w W→x∈l→Calls Tryz.prog g (#[(.int .i64 x)]++lb) W fun e w'=>e=.returned (.bool (p x))∧Grew W w') :
  Calls Tryz.prog 226 #[v,.func (.func g) #[] lb] w fun e w'=>e=.returned (.int .i64 (idxP p l))∧Grew w w':=by
 obtain⟨A,c,rfl,hlc,hc,hr⟩:=hv.open_
 unfold maxLen at hc
 have HR:=Lib.hid hr
 have HP:=Lib.hid hp
 clear hr hp hv
 go_enter Tryz.func226,Tryz.ntmps226
 go_wp2
 go_loopg [5,8] l.length (fun gg _ s8 wr=>∃ kk:Nat,kk≤l.length∧l.length-kk≤gg∧s8=.int .i64 kk∧Aside (Grew w wr)∧Aside (∀ i (hi:i<l.length),i<kk→p l[i]=false))
 case atStart=>exact⟨0,Nat.zero_le _,by omega,rfl,Grew.refl w,fun i hi h=>absurd h (Nat.not_lt_zero _)⟩
 case round =>
  obtain⟨kk,hkk,hg,rfl,BW,M⟩:=hrel
  by_cases hlt:kk<l.length
  ·obtain⟨b,off,rfl,hb,hcell⟩:=HR.out (by omega)
   obtain c0:=hcell wr BW.out kk hlt
   have hcall:=HP.out wr l[kk] BW.out (List.getElem_mem hlt)
   have hltz:(kk:Int)<(l.length:Int):=by omega
   clear hcell
   generalize hy:l[kk]=y at c0 hcall
   have B:Aside (l[kk]=y):=hy
   clear hy
   cases hq:p y with
   | true =>
    rw[hq] at hcall
    go_wp2_with (go_at_fn g;refine hcall.mono ?_;rintro e w' ⟨rfl,hb'⟩)
    go_ret
    refine⟨?_,BW.out.trans hb'⟩
    rw[idxP_hit p l kk hlt (by rw[B.out];exact hq) M.out]
    rfl
   | false =>
    rw[hq] at hcall
    go_wp2_with (go_at_fn g;refine hcall.mono ?_;rintro e w' ⟨rfl,hb'⟩)
    go_roundg (l.length-(kk+1))
    case measure=>omega
    case rel =>
     refine⟨kk+1,by omega,by omega,by go_num,BW.out.trans hb',(show Aside _ from fun i hi h=>?_)⟩
     by_cases e:i=kk
     ·subst e
      rw[B.out];exact hq
     ·exact M.out i hi (by omega)
  ·have hltz:¬ (kk:Int)<(l.length:Int):=by omega
   go_wp2
   go_ret
   refine⟨?_,BW.out⟩
   rw[idxP_miss p l (fun i hi=>M.out i hi (by omega))]
   rfl
set_option maxHeartbeats 1000000 in
theorem indexFuncB (l:List BrC) (p:BrC→Bool) (g:Nat) (lb:Array Value) (eg:∀ args w,(callFunc g args).run Tryz.prog w=.ok (.enter g args) w) (v:Value) (w:World) (hv:SlB w v l)
  (hp:∀ W x,Grew w W→x∈l→Calls Tryz.prog g (#[x.agg]++lb) W fun e w'=>e=.returned (.bool (p x))∧Grew W w') :
  Calls Tryz.prog 77 #[v,.func (.func g) #[] lb] w fun e w'=>e=.returned (.int .i64 (idxP p l))∧Grew w w':=by
 obtain⟨A,c,rfl,hlc,hc,hr⟩:=hv.open_
 unfold maxLen at hc
 have HR:=Lib.hid hr
 have HP:=Lib.hid hp
 clear hr hp hv
 go_enter Tryz.func77,Tryz.ntmps77
 go_wp2
 go_loopg [5,8] l.length (fun gg _ s8 wr=>∃ kk:Nat,kk≤l.length∧l.length-kk≤gg∧s8=.int .i64 kk∧Aside (Grew w wr)∧Aside (∀ i (hi:i<l.length),i<kk→p l[i]=false))
 case atStart=>exact⟨0,Nat.zero_le _,by omega,rfl,Grew.refl w,fun i hi h=>absurd h (Nat.not_lt_zero _)⟩
 case round =>
  obtain⟨kk,hkk,hg,rfl,BW,M⟩:=hrel
  by_cases hlt:kk<l.length
  ·obtain⟨b,off,rfl,hb,hcell⟩:=HR.out (by omega)
   obtain⟨c0,c1,c2,c3,c4,c5⟩:=hcell wr BW.out kk hlt
   have hcall:=HP.out wr l[kk] BW.out (List.getElem_mem hlt)
   have hltz:(kk:Int)<(l.length:Int):=by omega
   clear hcell
   generalize hy:l[kk]=y at c0 c1 c2 c3 c4 c5 hcall
   have B:Aside (l[kk]=y):=hy
   clear hy
   unfold BrC.agg at hcall
   cases hq:p y with
   | true =>
    rw[hq] at hcall
    go_wp2_with (go_at_fn g;refine hcall.mono ?_;rintro e w' ⟨rfl,hb'⟩)
    go_ret
    refine⟨?_,BW.out.trans hb'⟩
    rw[idxP_hit p l kk hlt (by rw[B.out];exact hq) M.out]
    rfl
   | false =>
    rw[hq] at hcall
    go_wp2_with (go_at_fn g;refine hcall.mono ?_;rintro e w' ⟨rfl,hb'⟩)
    go_roundg (l.length-(kk+1))
    case measure=>omega
    case rel =>
     refine⟨kk+1,by omega,by omega,by go_num,BW.out.trans hb',(show Aside _ from fun i hi h=>?_)⟩
     by_cases e:i=kk
     ·subst e
      rw[B.out];exact hq
     ·exact M.out i hi (by omega)
  ·have hltz:¬ (kk:Int)<(l.length:Int):=by omega
   go_wp2
   go_ret
   refine⟨?_,BW.out⟩
   rw[idxP_miss p l (fun i hi=>M.out i hi (by omega))]
   rfl
end Go.Proofs.YtdochkemaiokfaaGreat