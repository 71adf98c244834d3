/- Lemmas on what the functions of the program and of the library compute: Base, Types, App, App2, Ins, TypesR, SlR, InsR, App3. The conditions stand at each. -/
import Derived.WalkKit
import Derived.WalkSpells
import Derived.WalkLawsBesides
import Derived.Lib.Hide
import Derived.BigGuardPart
import Derived.Deep.LoopGhost
import Derived.Deep.QuietTactic
import Derived.BigQuiet
import Derived.Deep.Draws
import Derived.Laws.Cells
import Derived.Deep.DeepFit
import Derived.Shelf.Abstract
import Derived.Deep.WholeRow
import Derived.Deep.MidRow
import Derived.Lib.SliceRun
import Derived.StillTailTactics
import Derived.Lib.Overlaps
import Derived.Lib.AppendZerosOnto
import Derived.Laws.CopyOwn
import Derived.Test.YtafncfomiolmgaaGreatDoorProg
import Derived.Lib.LazyBuf
import Derived.Deep.RegionLaw
import Derived.Deep.AppendLies
namespace Go.Proofs.YtafncfomiolmgaaGreatDoor
open Go.RowKit
theorem b_1 {p:Prop} (h:p:=by first|exact rd_lit _ rfl _ (by simp)|exact rd_block rfl (by decide) (by omega) (fun j y hy=>by rcases j with _|_|_|_|_|_|j<;>simp at hy<;>subst hy<;>exact X1.out _ _ (by simp) (by change some _≠some _;simp))):p:=h
theorem b_2 {p:Prop} (h:p:=by repeat (first|exact uX _|exact GQ3.out|exact GQ2.out|exact GQ1.out|refine uJ ?_|refine uU ?_ _|refine yZ ?_ (by first|exact Nat.le_refl _|exact GQ3.out.size|exact GQ2.out.size|exact GQ1.out.size|simp) _)):p:=h
theorem b_3 {p:Prop} (h:p:=by first|(simp[results,Tryz.results23,go_sem,q0,q1,q2,q3,q4,q5,q6,q7,q8,q9,q10,q11];done)|simp[results,Tryz.results24,go_sem,q0,q1,q2,q3,q4,q5,q6,q7,q8,q9,q10,q11]):p:=h
theorem b_4 {p:Prop} (h:p:=by repeat (first|exact uX _|exact G3a.out|exact G2a.out|exact G1a.out|refine uJ ?_|refine Grew.drewN ?_ _|refine uU ?_ _)):p:=h
theorem b_5 {p:Prop} (h:p:=by repeat (first|exact uX _|exact G6.out|exact G5.out|refine uJ ?_|refine Grew.drewN ?_ _|refine uU ?_ _)):p:=h
theorem b_6 {p:Prop} (h:p:=by repeat (first|exact uX _|exact G3a.out|exact G2a.out|exact G1a.out|refine uJ ?_|refine uU ?_ _)):p:=h
theorem b_7 {p:Prop} (h:p:=by with_reducible first|exact KP.out _ (GX.out.trans (Gr.g _))|exact KB.out _ (GX.out.trans (Gr.g _))):p:=h
theorem b_9 {p:Prop} (h:p:=by unfold faultO;rw[if_neg (by show ¬ ok=1;rw[HK2.out];decide),if_pos HK2.out];exact hf0):p:=h
theorem b_10 {p:Prop} (h:p:=by repeat (first|exact uX _|exact GQ2.out|exact GQ1.out|refine uJ ?_|refine uU ?_ _)):p:=h
theorem b_11 {p:Prop} (h:p:=by repeat (first|exact own_lit _ (by simp) (by simp)|refine World.ownsRow.alloc ?_ _)):p:=h
theorem b_12 {p:Prop} (h:p:=by repeat (first|exact uX _|exact HB2.out|refine uU ?_ _|refine uJ ?_)):p:=h
theorem b_13 {p:Prop} (h:p:=by repeat (first|exact uX _|exact GQ1.out|refine uJ ?_|refine uU ?_ _)):p:=h
theorem b_14 {p:Prop} (h:p:=by repeat (first|exact uX _|exact GQ2.out|refine uJ ?_|refine uU ?_ _)):p:=h
theorem b_15 {p:Prop} (h:p:=by repeat (first|exact G2.out|exact uX w|refine uU ?_ _|refine uJ ?_)):p:=h
theorem b_16 {p:Prop} (h:p:=by repeat (first|exact G3.out|exact uX w|refine uU ?_ _|refine uJ ?_)):p:=h
theorem b_17 {p:Prop} (h:p:=by repeat (first|exact uX _|exact G8.out|refine uJ ?_|refine uU ?_ _)):p:=h
theorem b_18 {p:Prop} (h:p:=by repeat (first|exact uX _|exact G7.out|refine uJ ?_|refine uU ?_ _)):p:=h
theorem b_19 {p:Prop} (h:p:=by rw[← HR.out];first|rfl|(simp;done)|simp[Bool.and_assoc]):p:=h
theorem b_20 {p:Prop} (h:p:=by repeat (first|exact uX w|refine uU ?_ _|refine uJ ?_)):p:=h
theorem b_21 {p:Prop} (h:p:=by repeat (first|exact uX _|refine uU ?_ _|refine uJ ?_)):p:=h
theorem b_22 {p:Prop} (h:p:=by repeat (first|exact uX _|refine uJ ?_|refine uU ?_ _)):p:=h
theorem b_23 {p:Prop} (h:p:=by have:=HG3.out.size;show _≤w2.heap.size+1;omega):p:=h
theorem b_24 {p:Prop} (h:p:=by rw[HC.out];simp only [List.length_append];omega):p:=h
theorem b_25 {p:Prop} (h:p:=by first|exact GB3.out|exact GB2.out|exact uX _):p:=h
theorem b_26 {p:Prop} (h:p:=by simp[results,Tryz.results57,go_sem,p0,p1]):p:=h
theorem b_27 {p:Prop} (h:p:=by simp[results,Tryz.results56,go_sem,p0,p1]):p:=h
theorem b_28 {p:Prop} (h:p:=by show w.heap.size≤w.heap.size+1+1;omega):p:=h
theorem b_29 {p:Prop} (h:p:=by repeat (first|exact uX _|refine uU ?_ _)):p:=h
theorem b_30 {p:Prop} (h:p:=by repeat (first|exact uX _|refine uJ ?_)):p:=h
theorem b_31 {p:Prop} (h:p:=by show w.heap.size≤w.heap.size+1;omega):p:=h
theorem b_32 {p:Prop} (h:p:=by rw[List.length_take];omega):p:=h
theorem b_33 {p:Prop} (h:p:=by first|rfl|trivial):p:=h
theorem b_34 {p:Prop} (h:p:=by unfold maxLen;omega):p:=h
theorem b_35 {p:Prop} (h:p:=by assumption):p:=h
theorem b_36 {p:Prop} (h:p:=by decide):p:=h
theorem b_37 {p:Prop} (h:p:=by omega):p:=h
theorem b_38 {p:Prop} (h:p:=by simp):p:=h
theorem b_39 {p:Prop} (h:p:=by rfl):p:=h
def Grew (w w':World):Prop:=Below w.heap.size w w'
section
variable {a b c w w':World}
theorem Grew.refl (w:World):Grew w w:=Below.refl _ _
theorem Grew.trans (h:Grew a b) (k:Grew b c):Grew a c:=Below.trans h (Below.mono k (Below.size h))
theorem Grew.size (h:Grew a b):a.heap.size≤b.heap.size:=Below.size h
theorem Grew.alloc (h:Grew a w) (o:Obj):Grew a (w.alloc o):=Below.alloc h (Below.size h) o
theorem Grew.drew (h:Grew a w):Grew a w.drew:=Below.drew h
theorem Grew.drewN (h:Grew a w) (n:Nat):Grew a (w.drewN n):=⟨h.os,h.tape,h.output,h.size,h.block⟩
theorem Grew.setCell (h:Grew a w) {p:Addr} (hp:a.heap.size≤p.block) (u:Value):Grew a (w.setCell p u):=Below.setCell h hp u
theorem Grew.cell (h:Grew a b) {p:Addr} (hp:p.block<a.heap.size):b.cell? p=a.cell? p:=Below.cell h hp
theorem Grew.frozen (h:Grew a b) {p:Addr} (hp:p.block<a.heap.size):b.frozen? p=a.frozen? p:=Below.frozen h hp
theorem Grew.cells (h:Grew a b):(∀ bl o,bl<a.heap.size→b.cell? ⟨bl,o,none⟩=a.cell? ⟨bl,o,none⟩)∧(∀ bl o,bl<a.heap.size→b.frozen? ⟨bl,o,none⟩=a.frozen? ⟨bl,o,none⟩) :=
 ⟨fun _ _ hb=>h.cell hb,fun _ _ hb=>h.frozen hb⟩
theorem Grew.below (h:Grew a b):Below a.heap.size a b:=h
end
def Rd (w:World) (k:Nat) (v:Value) (cs:List Value):Prop :=
 ∃(A:Option Addr) (n c:Nat),v=.slice A n c∧cs.length=n*k∧n≤c∧c≤maxLen ∧
  (0<n→∃ b off,A=some ⟨b,off,none⟩∧b<w.heap.size∧∀ j u,cs[j]? = some u→w.cell? ⟨b,off+j,none⟩=some u)
theorem Rd.mono {w w':World} {k:Nat} {v:Value} {cs:List Value} (h:Rd w k v cs) (hg:Grew w w'):Rd w' k v cs:=by
 obtain⟨A,n,c,hv,hl,hn,hc,hr⟩:=h
 refine⟨A,n,c,hv,hl,hn,hc,fun h0=>?_⟩
 obtain⟨b,off,hA,hb,hcell⟩:=hr h0
 exact⟨b,off,hA,Nat.lt_of_lt_of_le hb hg.size,fun j u hu=>(hg.cell hb).trans (hcell j u hu)⟩
theorem Rd.nil (w:World) (k:Nat):Rd w k (.slice none 0 0) []:=⟨none,0,0,rfl,by simp,Nat.le_refl _,Nat.zero_le _,fun h=>absurd h (Nat.lt_irrefl _)⟩
theorem Rd.fresh (w:World) (e:TypeId) (k n:Nat) (cs:List Value) (h:cs.length=n*k) (hn:n≤maxLen):Rd (w.alloc (.cells cs.toArray e)) k (.slice (some ⟨w.heap.size,0,none⟩) n n) cs:=by
 refine⟨_,n,n,rfl,h,Nat.le_refl _,hn,fun _=>⟨w.heap.size,0,rfl,by simp,fun j u hu=>?_⟩⟩
 have hlast:(w.alloc (.cells cs.toArray e)).heap[w.heap.size]? = some (.cells cs.toArray e):=heap_alloc_last w _
 rw[cell_of_row _ _ _ _ _ _ hlast]
 simpa using hu
theorem ret_bool {a b:Bool} (h:a=b):Ending.returned (.bool a)=.returned (.bool b):=by rw[h]
theorem add_lit (b off j:Nat):(⟨b,off,none⟩:Addr).add j=⟨b,off+j,none⟩:=by
 unfold Addr.add
 split
 ·next h=>subst h;rfl
 ·rfl
def idxFrom {α:Type} (p:α→Bool):List α→Nat→Int
 | [],_=>-1
 | x::r,i=>if p x then(i:Int) else idxFrom p r (i+1)
def idxP {α:Type} (p:α→Bool) (l:List α):Int:=idxFrom p l 0
theorem idxFrom_hit {α:Type} (p:α→Bool) (l:List α) (j k:Nat) (hk:k<l.length) (hp:p l[k]=true) (h:∀ i (hi:i<l.length),i<k→p l[i]=false):idxFrom p l j=((j+k:Nat):Int):=by
 induction l generalizing j k with
 | nil=>simp at hk
 | cons x r ih =>
  cases k with
  | zero=>simp at hp;simp[idxFrom,hp]
  | succ k =>
   have h0:=h 0 b_38 b_37
   simp only [List.getElem_cons_zero] at h0
   rw[idxFrom,h0]
   simp only [Bool.false_eq_true,if_false]
   have e:=ih (j+1) k (by simpa using hk) (by simpa using hp) (fun i hi hik=>h (i+1) (Nat.succ_lt_succ hi) b_37)
   rw[e]
   congr 1
   omega
theorem idxFrom_miss {α:Type} (p:α→Bool) (l:List α) (j:Nat) (h:∀ i (hi:i<l.length),p l[i]=false):idxFrom p l j=-1:=by
 induction l generalizing j with
 | nil=>rfl
 | cons x r ih =>
  have h0:=h 0 b_38
  simp only [List.getElem_cons_zero] at h0
  rw[idxFrom,h0]
  simp only [Bool.false_eq_true,if_false]
  exact ih (j+1) (fun i hi=>h (i+1) (Nat.succ_lt_succ hi))
theorem idxP_hit {α:Type} (p:α→Bool) (l:List α) (k:Nat) (hk:k<l.length) (hp:p l[k]=true) (h:∀ i (hi:i<l.length),i<k→p l[i]=false):idxP p l=(k:Int):=by
 unfold idxP
 rw[idxFrom_hit p l 0 k hk hp h]
 simp
theorem idxP_miss {α:Type} (p:α→Bool) (l:List α) (h:∀ i (hi:i<l.length),p l[i]=false):idxP p l=-1:=idxFrom_miss p l 0 h
theorem idxFrom_any {α:Type} (p:α→Bool) (l:List α) (j:Nat):decide (0≤idxFrom p l j)=l.any p:=by
 induction l generalizing j with
 | nil=>rfl
 | cons x r ih =>
  rw[idxFrom,List.any_cons]
  by_cases h:p x=true
  ·rw[if_pos h,h]
   simp
  ·simp only [Bool.not_eq_true] at h
   rw[h]
   simp only [Bool.false_eq_true,if_false,Bool.false_or]
   exact ih (j+1)
theorem idxP_any {α:Type} (p:α→Bool) (l:List α):decide (0≤idxP p l)=l.any p:=idxFrom_any p l 0
theorem idxP_find {α:Type} (p:α→Bool) (l:List α) (h:l.any p=true):∃ m,∃ hm:m<l.length,p l[m]=true∧∀ i (hi:i<l.length),i<m→p l[i]=false:=by
 induction l with
 | nil=>simp at h
 | cons x r ih =>
  by_cases hx:p x=true
  ·exact⟨0,by simp,hx,fun i _ hi=>absurd hi (Nat.not_lt_zero _)⟩
  ·simp only [Bool.not_eq_true] at hx
   rw[List.any_cons,hx,Bool.false_or] at h
   obtain⟨m,hm,h1,h2⟩:=ih h
   refine⟨m+1,Nat.succ_lt_succ hm,h1,fun i hi hlt=>?_⟩
   cases i with
   | zero=>exact hx
   | succ i=>exact h2 i (Nat.lt_of_succ_lt_succ hi) b_37
theorem own_setCells {base:Nat} {e:TypeId} {k g n cap:Nat}:∀(vs:List Value) (o:Nat) (w:World) (ds:List Value),w.ownsRow base e k (.slice (some ⟨g,0,none⟩) n cap) n ds →
  ∃ ds',(w.setCells g o vs).ownsRow base e k (.slice (some ⟨g,0,none⟩) n cap) n ds'∧w.grownBy (w.setCells g o vs) (some g)∧ds'.length=ds.length ∧
   (∀ t,t<o∨o+vs.length≤t→ds'[t]? = ds[t]?)∧(∀ t,t<vs.length→o+t<ds.length→ds'[o+t]? = vs[t]?)
 | [],o,w,ds,h=>⟨ds,h,World.grownBy.refl w _,rfl,fun _ _=>rfl,fun t ht=>absurd ht (Nat.not_lt_zero _)⟩
 | v::vs,o,w,ds,h=>by
  obtain⟨h1,hg1⟩:=h.stored o v
  obtain⟨ds',h2,hg2,hl,ha,hb⟩:=own_setCells vs (o+1) (w.setCell ⟨g,o,none⟩ v) (ds.set o v) h1
  refine⟨ds',h2,hg1.trans hg2,by rw[hl,List.length_set],fun t ht=>?_,fun t ht htl=>?_⟩
  ·simp only [List.length_cons] at ht
   rw[ha t b_37,List.getElem?_set_ne b_37]
  ·cases t with
   | zero =>
    rw[Nat.add_zero,ha o b_37,List.getElem?_set_self b_37]
    rfl
   | succ t =>
    rw[show o+(t+1)=o+1+t by omega,hb t (by simpa using ht) (by rw[List.length_set];omega)]
    rfl
theorem own_cell {w:World} {base:Nat} {e:TypeId} {k g n cap:Nat} {ds:List Value} (h:w.ownsRow base e k (.slice (some ⟨g,0,none⟩) n cap) n ds) (t:Nat) (ht:t<n*k):∃ u,ds[t]? = some u∧w.cell? ⟨g,t,none⟩=some u:=by
 have hl:=h.1
 refine⟨ds[t]'b_37,List.getElem?_eq_getElem b_37,?_⟩
 rw[h.cellAt t ht]
 exact List.getElem?_eq_getElem b_37
theorem run_clear_own {P:Program} (w:World) (t e ty:TypeId) (z:Value) (k:Nat) (ht:P.underlying t=some (.slice e)) (hz:∀ w,(zeroValue e).run P w=.ok z w) (hk:z.cells.size=k) (h0:0<k) (h1:∀ u∈z.cells.toList,u.oneCell'=true)
  {base g n cap:Nat} {ds:List Value} (h:w.ownsRow base e k (.slice (some ⟨g,0,none⟩) n cap) n ds) (i c:Nat) (hi:i<n) :
  ∃ w' ds',(Builtin.clear_ #[t] ty #[.slice (some ⟨g,i*k,none⟩) (n-i) c]).run P w=.ok (.tuple #[]) w'∧w'.ownsRow base e k (.slice (some ⟨g,0,none⟩) n cap) n ds'∧w.grownBy w' (some g)∧∀ t,t<i*k→ds'[t]? = ds[t]?:=by
 have hlen:(Builtin.zeroCells z.cells (n-i)).toList.length=(n-i)*k:=by
  simp[Builtin.zeroCells,hk]
 have hone:∀ v∈(Builtin.zeroCells z.cells (n-i)).toList,v.oneCell'=true:=by
  intro v hv
  simp only [Builtin.zeroCells,Array.toList_map,List.mem_map] at hv
  obtain⟨j,_,rfl⟩:=hv
  have hlt:j % z.cells.size<z.cells.size:=Nat.mod_lt _ b_37
  rw[getElem!_pos z.cells _ hlt]
  exact h1 _ b_38
 have hle:(n-i)*k+i*k=n*k:=by rw[← Nat.add_mul];congr 1;omega
 obtain⟨ds',hd,hg,_,ha,_⟩:=own_setCells (Builtin.zeroCells z.cells (n-i)).toList (i*k) w ds h
 have hst:=run_storeCells_cells (P:=P) g (i*k) (Builtin.zeroCells z.cells (n-i)).toList 0 w
  (fun j hj=>by
   obtain⟨u,_,hu⟩:=own_cell h (i*k+j) b_37
   simp[hu])
  (fun j hj=>h.frozenAt _) hone
 simp only [Nat.add_zero] at hst
 refine⟨_,ds',?_,hd,hg,fun t ht=>ha t (.inl ht)⟩
 obtain⟨m,hm⟩:∃ m,n-i=m+1:=⟨n-i-1,by omega⟩
 rw[hm] at hst ⊢
 simp[Builtin.clear_,run_underlying ht,hz,hst]
theorem region_still_tail {P:Program} {id:Nat} {Q:Exit→Act→World→Prop} {a:Act} {w:World} {l:List Oper} (n:Nat) (hm:P.follows .mixedOrders=true) (hB:Region.lexTailB .any l.toArray n=true)
  (h:wpStill P l.toArray w.drew (fun a'=>wpList P l.toArray Q (l.drop n) a' w.drew) (l.take n) a):(Code.region id l.toArray true).wp P Q a w:=wp_region_still_tail n hm hB h
theorem uZ {p:Prop} (h:p):RowKit.Hid p:=Lib.hid h
theorem uX (w:World):Grew w w:=Grew.refl w
theorem uY {a b c:World} (h:Grew a b) (k:Grew b c):Grew a c:=Grew.trans h k
theorem uU {a w:World} (h:Grew a w) (o:Obj):Grew a (w.alloc o):=Grew.alloc h o
theorem uJ {a w:World} (h:Grew a w):Grew a w.drew:=Grew.drew h
theorem yZ {a w:World} (h:Grew a w) {p:Addr} (hp:a.heap.size≤p.block) (u:Value):Grew a (w.setCell p u):=Grew.setCell h hp u
theorem uV (w:World) (p a:Addr) (v:Value) (h:p≠a):(w.setCell p v).cell? a=w.cell? a:=World.cell?_setCell_other w p a v h
end Go.Proofs.YtafncfomiolmgaaGreatDoor
namespace Go.Proofs.YtafncfomiolmgaaGreatDoor
open Go.RowKit
theorem flatMap_get {α:Type} (f:α→List Value) (k:Nat) (hk:∀ x,(f x).length=k) (l:List α) (i j:Nat) (hi:i<l.length) (hj:j<k) :
  (l.flatMap f)[i*k+j]? = (f l[i])[j]?:=by
 induction l generalizing i with
 | nil=>simp at hi
 | cons x r ih =>
  rw[List.flatMap_cons]
  cases i with
  | zero =>
   rw[List.getElem?_append_left (by rw[hk];omega)]
   simp
  | succ i =>
   rw[List.getElem?_append_right (by rw[hk,Nat.add_mul];omega),hk]
   have e:(i+1)*k+j-k=i*k+j:=by rw[Nat.add_mul];omega
   rw[e,ih i (by simpa using hi)]
   rfl
theorem flatMap_len {α:Type} (f:α→List Value) (k:Nat) (hk:∀ x,(f x).length=k) (l:List α):(l.flatMap f).length=l.length*k:=by
 induction l with
 | nil=>simp
 | cons x r ih=>rw[List.flatMap_cons,List.length_append,hk,ih,List.length_cons,Nat.add_mul];omega
theorem Rd.open_ {α:Type} {w:World} {k:Nat} {v:Value} {f:α→List Value} {l:List α} (hk:∀ x,(f x).length=k) (h0:0<k) (h:Rd w k v (l.flatMap f)) :
  ∃(A:Option Addr) (c:Nat),v=.slice A l.length c∧l.length≤c∧c≤maxLen ∧
   (0<l.length→∃ b off,A=some ⟨b,off,none⟩∧b<w.heap.size∧∀ W,Grew w W→∀ i (hi:i<l.length) j,j<k→W.cell? ⟨b,off+i*k+j,none⟩=(f l[i])[j]?):=by
 obtain⟨A,n,c,hv,hl,hn,hc,hr⟩:=h
 rw[flatMap_len f k hk] at hl
 obtain rfl:n=l.length:=(Nat.eq_of_mul_eq_mul_right h0 hl).symm
 refine⟨A,c,hv,hn,hc,fun hp=>?_⟩
 obtain⟨b,off,hA,hb,hcell⟩:=hr hp
 refine⟨b,off,hA,hb,fun W hW i hi j hj=>?_⟩
 have e:=flatMap_get f k hk l i j hi hj
 have hlt:j<(f l[i]).length:=by rw[hk];exact hj
 rw[List.getElem?_eq_getElem hlt] at e ⊢
 rw[hW.cell (p:=⟨b,off+i*k+j,none⟩) hb,show off+i*k+j=off+(i*k+j) by omega]
 exact hcell _ _ e
def DelInv {α:Type} (k:Nat) (f:α→List Value) (l:List α) (q:α→Bool) (ds:List Value) (i j:Nat):Prop :=
 ds.length=l.length*k∧i=((l.take j).filter q).length∧j≤l.length∧(∀ t,t<i*k→ds[t]? = (((l.take j).filter q).flatMap f)[t]?)∧(∀ t,j*k≤t→ds[t]? = (l.flatMap f)[t]?)
section
variable {α:Type} {k:Nat} {f:α→List Value} {l:List α} {q:α→Bool} {ds:List Value} {i j:Nat}
theorem DelInv.le (h:DelInv k f l q ds i j):i≤j:=by
 obtain⟨_,hi,hj,_⟩:=h
 have:=List.length_filter_le q (l.take j)
 rw[List.length_take] at this
 omega
theorem DelInv.start (hk:∀ x,(f x).length=k) (m:Nat) (hm:m<l.length) (hq:q l[m]=false) (hb:∀ t (ht:t<l.length),t<m→q l[t]=true):DelInv k f l q (l.flatMap f) m (m+1):=by
 have e:(l.take (m+1)).filter q=l.take m:=by
  rw[List.take_succ_eq_append_getElem hm,List.filter_append]
  have h1:(l.take m).filter q=l.take m:=List.filter_eq_self.2 (fun x hx=>by
   obtain⟨t,ht,rfl⟩:=List.getElem_of_mem hx
   rw[List.getElem_take]
   rw[List.length_take] at ht
   exact hb t b_37 b_37)
  rw[h1]
  simp[hq]
 refine⟨flatMap_len f k hk l,by rw[e,List.length_take];omega,by omega,fun t ht=>?_,fun t _=>rfl⟩
 rw[e]
 conv=>lhs;rw[← List.take_append_drop m l,List.flatMap_append]
 rw[List.getElem?_append_left]
 rw[flatMap_len f k hk,List.length_take,Nat.min_eq_left b_37]
 exact ht
theorem DelInv.at_ (h:DelInv k f l q ds i j) (hk:∀ x,(f x).length=k) (hj:j<l.length) (t:Nat) (ht:t<k):ds[j*k+t]? = (f l[j])[t]?:=by
 rw[h.2.2.2.2 (j*k+t) b_37,flatMap_get f k hk l j t hj ht]
theorem DelInv.skip (h:DelInv k f l q ds i j) (hj:j<l.length) (hq:q l[j]=false):DelInv k f l q ds i (j+1):=by
 obtain⟨h1,h2,h3,h4,h5⟩:=h
 have e:(l.take (j+1)).filter q=(l.take j).filter q:=by
  rw[List.take_succ_eq_append_getElem hj,List.filter_append]
  simp[hq]
 exact⟨h1,by rw[e];exact h2,by omega,by rw[e];exact h4,fun t ht=>h5 t (by rw[Nat.add_mul] at ht;omega)⟩
theorem DelInv.keep {ds':List Value} (h:DelInv k f l q ds i j) (hk:∀ x,(f x).length=k) (hj:j<l.length) (hq:q l[j]=true) (hl:ds'.length=ds.length)
  (ha:∀ t,t<i*k∨i*k+(f l[j]).length≤t→ds'[t]? = ds[t]?) (hb:∀ t,t<(f l[j]).length→i*k+t<ds.length→ds'[i*k+t]? = (f l[j])[t]?):DelInv k f l q ds' (i+1) (j+1):=by
 have hij:=h.le
 obtain⟨h1,h2,h3,h4,h5⟩:=h
 have e:(l.take (j+1)).filter q=(l.take j).filter q++[l[j]]:=by
  rw[List.take_succ_eq_append_getElem hj,List.filter_append]
  simp[hq]
 have hmul:i*k≤j*k:=Nat.mul_le_mul_right k hij
 have hmul2:(j+1)*k≤l.length*k:=Nat.mul_le_mul_right k b_37
 rw[Nat.add_mul] at hmul2
 have hfl:(((l.take j).filter q).flatMap f).length=i*k:=by rw[flatMap_len f k hk,← h2]
 refine⟨by rw[hl];exact h1,by rw[e,List.length_append,← h2];rfl,by omega,fun t ht=>?_,fun t ht=>?_⟩
 ·rw[e,List.flatMap_append]
  rw[Nat.add_mul] at ht
  rcases Nat.lt_or_ge t (i*k) with hlt|hge
  ·rw[ha t (.inl hlt),h4 t hlt,List.getElem?_append_left b_37]
  ·have:=hb (t-i*k) (by rw[hk];omega) b_37
   rw[show i*k+(t-i*k)=t by omega] at this
   rw[this,List.getElem?_append_right b_37,hfl]
   simp
 ·rw[Nat.add_mul] at ht
  rw[ha t (.inr (by rw[hk];omega))]
  exact h5 t b_37
theorem DelInv.done {ds':List Value} (h:DelInv k f l q ds i l.length) (hk:∀ x,(f x).length=k) (hd:∀ t,t<i*k→ds'[t]? = ds[t]?):ds'.take (i*k)=(l.filter q).flatMap f∧i=(l.filter q).length:=by
 obtain⟨_,h2,_,h4,_⟩:=h
 rw[List.take_length] at h2 h4
 refine⟨?_,h2⟩
 apply List.ext_getElem?
 intro t
 rw[List.getElem?_take]
 split
 ·next ht=>rw[hd t ht,h4 t ht]
 ·next ht =>
  rw[List.getElem?_eq_none]
  rw[flatMap_len f k hk,← h2]
  omega
end
theorem own_cut {w:World} {base:Nat} {e:TypeId} {k g n cap:Nat} {ds:List Value} (h:w.ownsRow base e k (.slice (some ⟨g,0,none⟩) n cap) n ds) (i:Nat) (hi:i≤n):w.ownsRow base e k (.slice (some ⟨g,0,none⟩) i cap) i (ds.take (i*k)):=by
 have hm:i*k≤n*k:=Nat.mul_le_mul_right k hi
 refine⟨by rw[List.length_take,h.1];omega,?_⟩
 rcases h.2 with ⟨h1,_⟩|⟨g',c',cur,hv,hb,hh,hle,hmx,hsz,htk⟩
 ·cases h1
 ·injection hv with hA _ hC
  injection hA with hA
  injection hA with hG
  subst hG hC
  exact .inr ⟨_,_,cur,rfl,hb,hh,by omega,hmx,hsz,by rw[← htk,List.take_take,Nat.min_eq_left hm]⟩
theorem own_later {w w':World} {base:Nat} {e:TypeId} {k:Nat} {v:Value} {n:Nat} {xs:List Value} (h:w.ownsRow base e k v n xs) (hg:Grew w w'):w'.ownsRow base e k v n xs:=by
 refine⟨h.1,?_⟩
 rcases h.2 with h1|⟨g,cap,cur,hv,hb,hh,r⟩
 ·exact .inl h1
 ·refine .inr ⟨g,cap,cur,hv,hb,?_,r⟩
  rw[hg.block g]
  ·exact hh
  ·rcases Nat.lt_or_ge g w.heap.size with hlt|hge
   ·exact hlt
   ·rw[Array.getElem?_eq_none hge] at hh;cases hh
theorem own_form {w:World} {base:Nat} {e:TypeId} {size n:Nat} {v:Value} {xs:List Value} (h:w.ownsRow base e size v n xs) (h0:0<n):∃ g cap,v=.slice (some ⟨g,0,none⟩) n cap∧base≤g∧g<w.heap.size∧n≤cap:=by
 rcases h.2 with ⟨_,h1⟩|⟨g,cap,cur,hv,hb,hh,hle,_⟩
 ·omega
 ·refine⟨g,cap,hv,hb,?_,hle⟩
  rcases Nat.lt_or_ge g w.heap.size with hlt|hge
  ·exact hlt
  ·rw[Array.getElem?_eq_none hge] at hh;cases hh
theorem own_max {w:World} {base:Nat} {e:TypeId} {size n g cap:Nat} {xs:List Value} (h:w.ownsRow base e size (.slice (some ⟨g,0,none⟩) n cap) n xs):cap≤maxLen:=by
 rcases h.2 with ⟨h1,_⟩|⟨g',c',cur,hv,_,_,_,hm,_⟩
 ·cases h1
 ·injection hv with _ _ hc
  subst hc
  exact hm
theorem Rd.of_own {w:World} {base:Nat} {e:TypeId} {k:Nat} {v:Value} {n:Nat} {xs:List Value} (h:w.ownsRow base e k v n xs):Rd w k v xs:=by
 have hl:=h.1
 rcases h.2 with ⟨hv,hn⟩|⟨g,cap,cur,hv,_,hh,hle,hmx,_,htk⟩
 ·subst hv hn
  exact⟨none,0,0,rfl,hl,Nat.le_refl _,Nat.zero_le _,fun h=>absurd h (Nat.lt_irrefl _)⟩
 ·subst hv
  refine⟨_,n,cap,rfl,hl,hle,hmx,fun _=>⟨g,0,rfl,?_,fun j u hu=>?_⟩⟩
  ·rcases Nat.lt_or_ge g w.heap.size with hlt|hge
   ·exact hlt
   ·rw[Array.getElem?_eq_none hge] at hh;cases hh
  ·rw[Nat.zero_add,cell_of_row w g j cur e (0,0) hh,← hu,← htk,List.getElem?_take]
   have:j<n*k:=by rw[← hl];exact(List.getElem?_eq_some_iff.1 hu).1
   rw[if_pos this]
   simp
structure Val where
 unit:Int
 elem:Int
 lang:ByteArray
 text:ByteArray
deriving DecidableEq,Inhabited
def Val.cells (x:Val):List Value:=[.int .i64 x.unit,.int .i64 x.elem,.string x.lang,.string x.text]
def Val.agg (x:Val):Value:=.agg #[.int .i64 x.unit,.int .i64 x.elem,.string x.lang,.string x.text]
def SlV (w:World) (v:Value) (l:List Val):Prop:=Rd w 4 v (l.flatMap Val.cells)
theorem SlV.mono {w w':World} {v:Value} {l:List Val} (h:SlV w v l) (hg:Grew w w'):SlV w' v l:=Rd.mono h hg
theorem SlV.nil (w:World):SlV w (.slice none 0 0) []:=Rd.nil w _
theorem SlV.open_ {w : World} {v : Value} {l : List Val} (h : SlV w v l) : ∃ (A : Option Addr) (c : Nat), v = .slice A l.length c ∧ l.length ≤ c ∧ c ≤ maxLen ∧
      (0 < l.length → ∃ b off, A = some ⟨b, off, none⟩ ∧ b < w.heap.size ∧ ∀ W, Grew w W → ∀ i (hi : i < l.length), W.cell? ⟨b, off + i * 4, none⟩ = some (.int .i64 l[i].unit) ∧ W.cell? ⟨b, off + i * 4 + 1, none⟩ = some (.int .i64 l[i].elem) ∧ W.cell? ⟨b, off + i * 4 + 2, none⟩ = some (.string l[i].lang) ∧ W.cell? ⟨b, off + i * 4 + 3, none⟩ = some (.string l[i].text)) := by
 obtain⟨A,c,hv,hn,hm,hr⟩:=Rd.open_ (k:=4) (f:=Val.cells) (fun _=>rfl) b_37 h
 refine⟨A,c,hv,hn,hm,fun h0=>?_⟩
 obtain⟨b,off,hA,hb,hc⟩:=hr h0
 exact⟨b,off,hA,hb,fun W hW i hi=>⟨by simpa [Val.cells] using hc W hW i hi 0 b_37,by simpa [Val.cells] using hc W hW i hi 1 b_37,by simpa [Val.cells] using hc W hW i hi 2 b_37,by simpa [Val.cells] using hc W hW i hi 3 b_37⟩⟩
structure Kind where
 word:ByteArray
 inh:Bool
 lev:Int
deriving DecidableEq,Inhabited
def Kind.cells (x:Kind):List Value:=[.string x.word,.bool x.inh,.int .i64 x.lev]
def Kind.agg (x:Kind):Value:=.agg #[.string x.word,.bool x.inh,.int .i64 x.lev]
def SlK (w:World) (v:Value) (l:List Kind):Prop:=Rd w 3 v (l.flatMap Kind.cells)
theorem SlK.mono {w w':World} {v:Value} {l:List Kind} (h:SlK w v l) (hg:Grew w w'):SlK w' v l:=Rd.mono h hg
theorem SlK.nil (w:World):SlK w (.slice none 0 0) []:=Rd.nil w _
theorem SlK.open_ {w : World} {v : Value} {l : List Kind} (h : SlK w v l) : ∃ (A : Option Addr) (c : Nat), v = .slice A l.length c ∧ l.length ≤ c ∧ c ≤ maxLen ∧
      (0 < l.length → ∃ b off, A = some ⟨b, off, none⟩ ∧ b < w.heap.size ∧ ∀ W, Grew w W → ∀ i (hi : i < l.length), W.cell? ⟨b, off + i * 3, none⟩ = some (.string l[i].word) ∧ W.cell? ⟨b, off + i * 3 + 1, none⟩ = some (.bool l[i].inh) ∧ W.cell? ⟨b, off + i * 3 + 2, none⟩ = some (.int .i64 l[i].lev)) := by
 obtain⟨A,c,hv,hn,hm,hr⟩:=Rd.open_ (k:=3) (f:=Kind.cells) (fun _=>rfl) b_37 h
 refine⟨A,c,hv,hn,hm,fun h0=>?_⟩
 obtain⟨b,off,hA,hb,hc⟩:=hr h0
 exact⟨b,off,hA,hb,fun W hW i hi=>⟨by simpa [Kind.cells] using hc W hW i hi 0 b_37,by simpa [Kind.cells] using hc W hW i hi 1 b_37,by simpa [Kind.cells] using hc W hW i hi 2 b_37⟩⟩
def oneS (x:ByteArray):List Value:=[.string x]
def SlS (w:World) (v:Value) (l:List ByteArray):Prop:=Rd w 1 v (l.flatMap oneS)
theorem SlS.mono {w w':World} {v:Value} {l:List ByteArray} (h:SlS w v l) (hg:Grew w w'):SlS w' v l:=Rd.mono h hg
theorem SlS.nil (w:World):SlS w (.slice none 0 0) []:=Rd.nil w _
theorem SlS.open_ {w : World} {v : Value} {l : List ByteArray} (h : SlS w v l) : ∃ (A : Option Addr) (c : Nat), v = .slice A l.length c ∧ l.length ≤ c ∧ c ≤ maxLen ∧
      (0 < l.length → ∃ b off, A = some ⟨b, off, none⟩ ∧ b < w.heap.size ∧ ∀ W, Grew w W → ∀ i (hi : i < l.length), W.cell? ⟨b, off + i, none⟩ = some (.string l[i])) := by
 obtain⟨A,c,hv,hn,hm,hr⟩:=Rd.open_ (k:=1) (f:=oneS) (fun _=>rfl) b_37 h
 refine⟨A,c,hv,hn,hm,fun h0=>?_⟩
 obtain⟨b,off,hA,hb,hc⟩:=hr h0
 exact⟨b,off,hA,hb,fun W hW i hi=>by simpa [oneS] using hc W hW i hi 0 b_37⟩
def oneI (x:Int):List Value:=[.int .i64 x]
def SlI (w:World) (v:Value) (l:List Int):Prop:=Rd w 1 v (l.flatMap oneI)
theorem SlI.mono {w w':World} {v:Value} {l:List Int} (h:SlI w v l) (hg:Grew w w'):SlI w' v l:=Rd.mono h hg
theorem SlI.nil (w:World):SlI w (.slice none 0 0) []:=Rd.nil w _
theorem SlI.open_ {w : World} {v : Value} {l : List Int} (h : SlI w v l) : ∃ (A : Option Addr) (c : Nat), v = .slice A l.length c ∧ l.length ≤ c ∧ c ≤ maxLen ∧
      (0 < l.length → ∃ b off, A = some ⟨b, off, none⟩ ∧ b < w.heap.size ∧ ∀ W, Grew w W → ∀ i (hi : i < l.length), W.cell? ⟨b, off + i, none⟩ = some (.int .i64 l[i])) := by
 obtain⟨A,c,hv,hn,hm,hr⟩:=Rd.open_ (k:=1) (f:=oneI) (fun _=>rfl) b_37 h
 refine⟨A,c,hv,hn,hm,fun h0=>?_⟩
 obtain⟨b,off,hA,hb,hc⟩:=hr h0
 exact⟨b,off,hA,hb,fun W hW i hi=>by simpa [oneI] using hc W hW i hi 0 b_37⟩
end Go.Proofs.YtafncfomiolmgaaGreatDoor
namespace Go.Proofs.YtafncfomiolmgaaGreatDoor
open Go.RowKit
theorem app1 {P:Program} {ops:Array Oper} {rest:List Oper} {o:Oper} {a:Act} {Q:Exit→Act→World→Prop} (hgd:o.guard=none) (s x:Operand) (t:TypeId)
  (ho:o.op=.call { callee:=.builtin .append,args:=#[s,x],argTypes:=#[t,t] })
  (w0:World) (e:TypeId) (i:TypeInfo) (z:Value) (size bytes:Nat) (ht:P.underlying t=some (.slice e)) (hi:P.info? e=some i) (hz:i.zero=some z)
  (hsize:i.size=size) (hby:i.bytes=bytes) (hzs:z.cells.size=size) (hsz:0<size)
  (v:Value) (n:Nat) (xs:List Value) (hs:a.eval s=v) (wr:World) (hown:wr.ownsRow w0.heap.size e size v n xs) (hg:Grew w0 wr)
  (cs:List Value) (hx:a.eval x=.slice (some ⟨wr.heap.size,0,none⟩) 1 1) (hl:cs.length=size) (h1:cs.all (·.oneCell')=true)
  (h63:n+1≤maxLen) (hbytes:(n+1)*bytes≤140737488355328)
  (h:∀ v' w',w'.ownsRow w0.heap.size e size v' (n+1) (xs++cs)→Grew w0 w'→wpList P ops Q rest (a.put o.dst v') w'):wpList P ops Q (o::rest) a (wr.alloc (.cells cs.toArray e)):=by
 refine wpList_append_own _ hgd s x t ho w0.heap.size e i z size bytes ht hi hz hsize hby hzs hsz v n xs hs (hown.alloc _) ⟨wr.heap.size,0,none⟩ 1 1 cs hx b_37 ?_ ?_ h63 hbytes ?_ ?_
 ·intro j u hu
  have hlast:(wr.alloc (.cells cs.toArray e)).heap[wr.heap.size]? = some (.cells cs.toArray e):=heap_alloc_last wr _
  rw[add_lit,Nat.zero_add,cell_of_row _ _ _ _ _ _ hlast]
  simpa using hu
 ·exact fun u hu=>List.all_eq_true.1 h1 u hu
 ·have:=hg.size
  simp
  omega
 ·intro v' w' h2 h3 _
  refine h v' w' h2 ?_
  refine Below.grown (hg.alloc _) h3 (by have:=hg.size;simp;omega) (fun k hk=>?_)
  exact(hown.lt k hk).1
end Go.Proofs.YtafncfomiolmgaaGreatDoor
namespace Go.Proofs.YtafncfomiolmgaaGreatDoor
open Go.RowKit
theorem run_append_none {P:Program} (w:World) (base:Nat) (t ty e:TypeId) (i:TypeInfo) (size:Nat) (ht:P.underlying t=some (.slice e)) (hi:P.info? e=some i) (v:Value) (n:Nat) (xs:List Value) (hown:w.ownsRow base e size v n xs) (c:Nat) :
  (Builtin.append_ #[t,t] ty #[v,.slice none 0 c]).run P w=.ok v w:=by
 rcases hown.2 with ⟨rfl,rfl⟩|⟨g,cap,cur,rfl,_,_,hle,_⟩
 ·simp[Builtin.append_,run_underlying ht,sizeOf,typeInfo,hi,Builtin.lenOf,Builtin.firstCells]
 ·simp[Builtin.append_,run_underlying ht,sizeOf,typeInfo,hi,Builtin.lenOf,Builtin.firstCells,hle,storeCells]
theorem wpR {P:Program} {o:Oper} {a:Act} {K:Act→World→Prop} {Q:Exit→Act→World→Prop} (s x:Operand) (t:TypeId)
  (ho:o.op=.call { callee:=.builtin .append,args:=#[s,x],argTypes:=#[t,t] })
  (w0:World) (e:TypeId) (i:TypeInfo) (z:Value) (size bytes:Nat) (ht:P.underlying t=some (.slice e)) (hi:P.info? e=some i) (hz:i.zero=some z)
  (hsize:i.size=size) (hby:i.bytes=bytes) (hzs:z.cells.size=size) (hsz:0<size)
  (v:Value) (n:Nat) (xs:List Value) (hs:a.eval s=v) (wr:World) (hown:wr.ownsRow w0.heap.size e size v n xs) (hg:Grew w0 wr)
  (u:Value) (m:Nat) (cs:List Value) (hx:a.eval x=u) (hu:Rd wr size u cs) (hl:cs.length=m*size) (h1:∀ u∈cs,u.oneCell'=true)
  (h63:n+m≤maxLen) (hbytes:(n+m)*bytes≤140737488355328)
  (h:∀ v' w',w'.ownsRow w0.heap.size e size v' (n+m) (xs++cs)→Grew w0 w'→(∀ p x,wr.cell? p=some x→some p.block≠v.ownBlock→w'.cell? p=some x)→K (a.put o.dst v') w'):o.wp P a wr K Q:=by
 obtain⟨A,m',c,rfl,hl',hmc,_,hr⟩:=hu
 obtain rfl:m'=m:=Nat.eq_of_mul_eq_mul_right hsz (hl'.symm.trans hl)
 cases A with
 | none =>
  have hm0:m'=0:=by
   rcases Nat.eq_zero_or_pos m' with h0|h0
   ·exact h0
   ·obtain⟨b,off,hA,_⟩:=hr h0
    cases hA
  subst hm0
  have hcs:cs=[]:=List.eq_nil_of_length_eq_zero b_37
  subst hcs
  have hrun:=run_append_none wr w0.heap.size t o.type e i size ht hi v n xs hown c
  unfold Oper.wp execOp
  simp only [ho,resolve,invoke,builtin,Sem.run_bind,Sem.run_pure,Result.andThen_ok,List.map_toArray,List.map_cons,List.map_nil,hs,hx,hrun]
  exact h v wr (by simpa using hown) hg (fun p x hp _=>hp)
 | some ad =>
  refine wp_append_own wr s x t ho w0.heap.size e i z size bytes ht hi hz hsize hby hzs hsz v n xs hs hown ad m' c cs hx hl ?_ h1 h63 hbytes hg.size ?_
  ·intro j u hu
   have hj:=(List.getElem?_eq_some_iff.1 hu).1
   have h0:0<m':=by
    rcases Nat.eq_zero_or_pos m' with h0|h0
    ·subst h0;omega
    ·exact h0
   obtain⟨b,off,hA,_,hcell⟩:=hr h0
   cases hA
   rw[add_lit]
   exact hcell j u hu
  ·intro v' w' h2 h3 _
   exact h v' w' h2 (Below.grown hg h3 hg.size (fun k hk=>(hown.lt k hk).1)) (fun p x hp hne=>h3.cell hp hne)
theorem appR {P:Program} {ops:Array Oper} {rest:List Oper} {o:Oper} {a:Act} {Q:Exit→Act→World→Prop} (hgd:o.guard=none) (s x:Operand) (t:TypeId)
  (ho:o.op=.call { callee:=.builtin .append,args:=#[s,x],argTypes:=#[t,t] })
  (w0:World) (e:TypeId) (i:TypeInfo) (z:Value) (size bytes:Nat) (ht:P.underlying t=some (.slice e)) (hi:P.info? e=some i) (hz:i.zero=some z)
  (hsize:i.size=size) (hby:i.bytes=bytes) (hzs:z.cells.size=size) (hsz:0<size)
  (v:Value) (n:Nat) (xs:List Value) (hs:a.eval s=v) (wr:World) (hown:wr.ownsRow w0.heap.size e size v n xs) (hg:Grew w0 wr)
  (u:Value) (m:Nat) (cs:List Value) (hx:a.eval x=u) (hu:Rd wr size u cs) (hl:cs.length=m*size) (h1:∀ u∈cs,u.oneCell'=true)
  (h63:n+m≤maxLen) (hbytes:(n+m)*bytes≤140737488355328)
  (h:∀ v' w',w'.ownsRow w0.heap.size e size v' (n+m) (xs++cs)→Grew w0 w'→(∀ p x,wr.cell? p=some x→some p.block≠v.ownBlock→w'.cell? p=some x)→wpList P ops Q rest (a.put o.dst v') w'):wpList P ops Q (o::rest) a wr :=
 wpList_plain hgd fun _ hK=>wpR s x t ho w0 e i z size bytes ht hi hz hsize hby hzs hsz v n xs hs wr hown hg u m cs hx hu hl h1 h63 hbytes fun v' w' h2 h3 h4=>hK _ _ (h v' w' h2 h3 h4)
theorem stepR {P:Program} {ops:Array Oper} {o:Oper} {a:Act} {K:Act→World→Prop} {Q:Exit→Act→World→Prop} {E:Prop} (hgd:o.guard=none) (s x:Operand) (t:TypeId)
  (ho:o.op=.call { callee:=.builtin .append,args:=#[s,x],argTypes:=#[t,t] })
  (w0:World) (e:TypeId) (i:TypeInfo) (z:Value) (size bytes:Nat) (ht:P.underlying t=some (.slice e)) (hi:P.info? e=some i) (hz:i.zero=some z)
  (hsize:i.size=size) (hby:i.bytes=bytes) (hzs:z.cells.size=size) (hsz:0<size)
  (v:Value) (n:Nat) (xs:List Value) (hs:a.eval s=v) (wr:World) (hown:wr.ownsRow w0.heap.size e size v n xs) (hg:Grew w0 wr)
  (u:Value) (m:Nat) (cs:List Value) (hx:a.eval x=u) (hu:Rd wr size u cs) (hl:cs.length=m*size) (h1:∀ u∈cs,u.oneCell'=true)
  (h63:n+m≤maxLen) (hbytes:(n+m)*bytes≤140737488355328)
  (h:∀ v' w',w'.ownsRow w0.heap.size e size v' (n+m) (xs++cs)→Grew w0 w'→(∀ p x,wr.cell? p=some x→some p.block≠v.ownBlock→w'.cell? p=some x)→K (a.put o.dst v') w'):if Region.wanted o (yielded ops a.tmps)=true then Oper.wp P o a wr K Q else E:=by
 have hw:Region.wanted o (yielded ops a.tmps)=true:=by simp[Region.wanted,hgd]
 rw[if_pos hw]
 exact wpR s x t ho w0 e i z size bytes ht hi hz hsize hby hzs hsz v n xs hs wr hown hg u m cs hx hu hl h1 h63 hbytes h
theorem app1H {P:Program} {ops:Array Oper} {rest:List Oper} {o:Oper} {a:Act} {Q:Exit→Act→World→Prop} (hgd:o.guard=none) (s x:Operand) (t:TypeId)
  (ho:o.op=.call { callee:=.builtin .append,args:=#[s,x],argTypes:=#[t,t] })
  (w0:World) (e:TypeId) (i:TypeInfo) (z:Value) (size bytes:Nat) (ht:P.underlying t=some (.slice e)) (hi:P.info? e=some i) (hz:i.zero=some z)
  (hsize:i.size=size) (hby:i.bytes=bytes) (hzs:z.cells.size=size) (hsz:0<size)
  (v:Value) (n:Nat) (xs:List Value) (hs:a.eval s=v) (wr:World) (hown:wr.ownsRow w0.heap.size e size v n xs) (hg:Grew w0 wr) (H:Nat) (hH:wr.heap.size=H)
  (cs:List Value) (hx:a.eval x=.slice (some ⟨H,0,none⟩) 1 1) (hl:cs.length=size) (h1:cs.all (·.oneCell')=true)
  (h63:n+1≤maxLen) (hbytes:(n+1)*bytes≤140737488355328)
  (h:∀ v' w',w'.ownsRow w0.heap.size e size v' (n+1) (xs++cs)→Grew w0 w'→wpList P ops Q rest (a.put o.dst v') w'):wpList P ops Q (o::rest) a (wr.alloc (.cells cs.toArray e)):=by
 subst hH
 exact app1 hgd s x t ho w0 e i z size bytes ht hi hz hsize hby hzs hsz v n xs hs wr hown hg cs hx hl h1 h63 hbytes h
end Go.Proofs.YtafncfomiolmgaaGreatDoor
namespace Go.Proofs.YtafncfomiolmgaaGreatDoor
open Go.RowKit
theorem run_copy_rowk {P:Program} (w:World) (dT sT ty elem:TypeId) (g o dLen dCap:Nat) (a:Addr) (sLen sCap k:Nat) (cur:List Value) (t:TypeId) (cs:List Value)
  (hu:P.underlying dT=some (.slice elem)) (hs:(P.info? elem).map (·.size)=some k) (hg:w.heap[g]? = some (.cells cur.toArray t (0,0))) (hn:cs.length=Nat.min sLen dLen*k)
  (hsrc:∀ j v,cs[j]? = some v→w.cell? (a.add j)=some v) (hfit:o+cs.length≤cur.length) (h1:∀ v∈cs,v.oneCell'=true) :
  (Builtin.copy_ #[dT,sT] ty #[.slice (some ⟨g,o,none⟩) dLen dCap,.slice (some a) sLen sCap]).run P w=.ok (goInt (Nat.min sLen dLen)) (w.setRow g (splice cur o cs).toArray):=by
 have hl:=run_loadCells_list (P:=P) w a cs hsrc
 have hst:=run_storeCells_at P g o t cs 0 cur.toArray w hg (by simpa using hfit) h1
 cases hq:P.info? elem with
 | none=>simp[hq] at hs
 | some i =>
  have hi:i.size=k:=by simpa [hq] using hs
  rw[hn] at hl
  simp[Builtin.copy_,run_underlying hu,Builtin.lenOf,Builtin.firstCells,sizeOf,typeInfo,hq,hi,hl,hst,splice]
theorem copyK {P:Program} {w:World} {ops:Array Oper} {rest:List Oper} {o:Oper} {a:Act} {Q:Exit→Act→World→Prop} (hgd:o.guard=none) (d s:Operand) (dT sT:TypeId)
  (ho:o.op=.call { callee:=.builtin .copy,args:=#[d,s],argTypes:=#[dT,sT] }) (elem:TypeId) (hu:P.underlying dT=some (.slice elem)) (k:Nat) (hsz:(P.info? elem).map (·.size)=some k)
  (g off dLen dCap:Nat) (ad:Addr) (sLen sCap:Nat) (hd:a.eval d=.slice (some ⟨g,off,none⟩) dLen dCap) (hs:a.eval s=.slice (some ad) sLen sCap)
  (cur:List Value) (t:TypeId) (hg:w.heap[g]? = some (.cells cur.toArray t (0,0))) (cs:List Value) (hn:cs.length=Nat.min sLen dLen*k)
  (hsrc:∀ j v,cs[j]? = some v→w.cell? (ad.add j)=some v) (hfit:off+cs.length≤cur.length) (h1:∀ v∈cs,v.oneCell'=true) (w0:World) (hb:Grew w0 w) (hBg:w0.heap.size≤g)
  (h:∀ w',Hid (w'.heap[g]? = some (.cells (splice cur off cs).toArray t (0,0)))→Hid (Grew w0 w')→Hid (∀ b,b≠g→w'.heap[b]? = w.heap[b]?)→wpList P ops Q rest (a.put o.dst (goInt (Nat.min sLen dLen))) w') :
  wpList P ops Q (o::rest) a w:=by
 refine wpList_plain hgd fun K hK=>?_
 have hrun:=run_copy_rowk (P:=P) w dT sT o.type elem g off dLen dCap ad sLen sCap k cur t cs hu hsz hg hn hsrc hfit h1
 unfold Oper.wp
 simp[execOp,ho,resolve,invoke,builtin,hd,hs,hrun,Result.andThen]
 exact hK _ _ (h _ (setRow_heap w g _ _ t _ hg) (below_setRow hb hBg _) (fun b hb=>setRow_other w g b _ hb))
theorem copy_run {P:Program} (w:World) (dT sT:TypeId) (elem:TypeId) (hu:P.underlying dT=some (.slice elem)) (k:Nat) (hsz:(P.info? elem).map (·.size)=some k)
  (g off dLen dCap:Nat) (ad:Addr) (sLen sCap:Nat) (cur:List Value) (t:TypeId) (hg:w.heap[g]? = some (.cells cur.toArray t (0,0))) (cs:List Value) (hn:cs.length=Nat.min sLen dLen*k)
  (hsrc:∀ j v,cs[j]? = some v→w.cell? (ad.add j)=some v) (hfit:off+cs.length≤cur.length) (h1:∀ v∈cs,v.oneCell'=true) (w0:World) (hb:Grew w0 w) (hBg:w0.heap.size≤g) :
  ∃ w',(∀ ty,(Builtin.copy_ #[dT,sT] ty #[.slice (some ⟨g,off,none⟩) dLen dCap,.slice (some ad) sLen sCap]).run P w=.ok (goInt (Nat.min sLen dLen)) w')∧w'.heap[g]? = some (.cells (splice cur off cs).toArray t (0,0))∧Grew w0 w'∧∀ b,b≠g→w'.heap[b]? = w.heap[b]? :=
 ⟨_,fun ty=>run_copy_rowk (P:=P) w dT sT ty elem g off dLen dCap ad sLen sCap k cur t cs hu hsz hg hn hsrc hfit h1,setRow_heap w g _ _ t _ hg,below_setRow hb hBg _,fun b hb=>setRow_other w g b _ hb⟩
theorem splice_shift {α:Type} (p q r x:List α) (h:x.length≤r.length):splice (splice (p++q++r) (p.length+x.length) q) p.length x=p++x++q++(p++q++r).drop (p.length+x.length+q.length):=by
 generalize hC:p++q++r=C
 have hl:p.length+x.length≤C.length:=by rw[← hC];simp;omega
 have hp:C.take p.length=p:=by rw[← hC,List.append_assoc,List.take_left]
 have h1:(splice C (p.length+x.length) q).take p.length=p:=by
  unfold splice
  rw[List.take_append_of_le_length b_32,List.take_take,Nat.min_eq_left b_37,hp]
 have h2:(splice C (p.length+x.length) q).drop (p.length+x.length)=q++C.drop (p.length+x.length+q.length):=by
  unfold splice
  rw[List.drop_append_of_le_length b_32,List.drop_eq_nil_of_le b_32,List.nil_append]
 rw[splice,h1,h2]
 simp
theorem splice_new {α:Type} (p q z x:List α):splice (splice (p++z) p.length x) (p.length+x.length) q=p++x++q++z.drop (x.length+q.length):=by
 have h1:splice (p++z) p.length x=p++x++z.drop x.length:=by
  unfold splice
  rw[List.take_left,List.drop_append,List.drop_eq_nil_of_le b_37,Nat.add_sub_cancel_left]
  simp
 rw[h1,splice]
 rw[show p.length+x.length=(p++x).length by simp,List.take_left,List.drop_append,List.drop_eq_nil_of_le b_37,Nat.add_sub_cancel_left,List.drop_drop]
 simp
theorem cells_at {w:World} {g:Nat} {cs:List Value} {t:TypeId} {ab:Nat × Nat} (h:w.heap[g]? = some (.cells cs.toArray t ab)) (j:Nat) (v:Value) (hj:cs[j]? = some v):w.cell? ⟨g,j,none⟩=some v:=by
 rw[cell_of_row _ _ _ _ _ _ h]
 simpa using hj
end Go.Proofs.YtafncfomiolmgaaGreatDoor
namespace Go.Proofs.YtafncfomiolmgaaGreatDoor
open Go.RowKit
structure Nam where
 text:ByteArray
 fr:Int
 un:Int
deriving DecidableEq,Inhabited
def Nam.cells (x:Nam):List Value:=[.string x.text,.int .i64 x.fr,.int .i64 x.un]
def Nam.agg (x:Nam):Value:=.agg #[.string x.text,.int .i64 x.fr,.int .i64 x.un]
def SlN (w:World) (v:Value) (l:List Nam):Prop:=Rd w 3 v (l.flatMap Nam.cells)
theorem SlN.mono {w w':World} {v:Value} {l:List Nam} (h:SlN w v l) (hg:Grew w w'):SlN w' v l:=Rd.mono h hg
theorem SlN.nil (w:World):SlN w (.slice none 0 0) []:=Rd.nil w _
theorem SlN.open_ {w : World} {v : Value} {l : List Nam} (h : SlN w v l) : ∃ (A : Option Addr) (c : Nat), v = .slice A l.length c ∧ l.length ≤ c ∧ c ≤ maxLen ∧
      (0 < l.length → ∃ b off, A = some ⟨b, off, none⟩ ∧ b < w.heap.size ∧ ∀ W, Grew w W → ∀ i (hi : i < l.length), W.cell? ⟨b, off + i * 3, none⟩ = some (.string l[i].text) ∧ W.cell? ⟨b, off + i * 3 + 1, none⟩ = some (.int .i64 l[i].fr) ∧ W.cell? ⟨b, off + i * 3 + 2, none⟩ = some (.int .i64 l[i].un)) := by
 obtain⟨A,c,hv,hn,hm,hr⟩:=Rd.open_ (k:=3) (f:=Nam.cells) (fun _=>rfl) b_37 h
 refine⟨A,c,hv,hn,hm,fun h0=>?_⟩
 obtain⟨b,off,hA,hb,hc⟩:=hr h0
 exact⟨b,off,hA,hb,fun W hW i hi=>⟨by simpa [Nam.cells] using hc W hW i hi 0 b_37,by simpa [Nam.cells] using hc W hW i hi 1 b_37,by simpa [Nam.cells] using hc W hW i hi 2 b_37⟩⟩
structure Rel where
 unit:Int
 role:Int
 auth:Int
 fr:Int
 un:Int
deriving DecidableEq,Inhabited
def Rel.cells (x:Rel):List Value:=[.int .i64 x.unit,.int .i64 x.role,.int .i64 x.auth,.int .i64 x.fr,.int .i64 x.un]
def Rel.agg (x:Rel):Value:=.agg #[.int .i64 x.unit,.int .i64 x.role,.int .i64 x.auth,.int .i64 x.fr,.int .i64 x.un]
def SlR (w:World) (v:Value) (l:List Rel):Prop:=Rd w 5 v (l.flatMap Rel.cells)
theorem SlR.mono {w w':World} {v:Value} {l:List Rel} (h:SlR w v l) (hg:Grew w w'):SlR w' v l:=Rd.mono h hg
theorem SlR.nil (w:World):SlR w (.slice none 0 0) []:=Rd.nil w _
theorem SlR.open_ {w : World} {v : Value} {l : List Rel} (h : SlR w v l) : ∃ (A : Option Addr) (c : Nat), v = .slice A l.length c ∧ l.length ≤ c ∧ c ≤ maxLen ∧
      (0 < l.length → ∃ b off, A = some ⟨b, off, none⟩ ∧ b < w.heap.size ∧ ∀ W, Grew w W → ∀ i (hi : i < l.length), W.cell? ⟨b, off + i * 5, none⟩ = some (.int .i64 l[i].unit) ∧ W.cell? ⟨b, off + i * 5 + 1, none⟩ = some (.int .i64 l[i].role) ∧ W.cell? ⟨b, off + i * 5 + 2, none⟩ = some (.int .i64 l[i].auth) ∧ W.cell? ⟨b, off + i * 5 + 3, none⟩ = some (.int .i64 l[i].fr) ∧ W.cell? ⟨b, off + i * 5 + 4, none⟩ = some (.int .i64 l[i].un)) := by
 obtain⟨A,c,hv,hn,hm,hr⟩:=Rd.open_ (k:=5) (f:=Rel.cells) (fun _=>rfl) b_37 h
 refine⟨A,c,hv,hn,hm,fun h0=>?_⟩
 obtain⟨b,off,hA,hb,hc⟩:=hr h0
 exact⟨b,off,hA,hb,fun W hW i hi=>⟨by simpa [Rel.cells] using hc W hW i hi 0 b_37,by simpa [Rel.cells] using hc W hW i hi 1 b_37,by simpa [Rel.cells] using hc W hW i hi 2 b_37,by simpa [Rel.cells] using hc W hW i hi 3 b_37,by simpa [Rel.cells] using hc W hW i hi 4 b_37⟩⟩
structure AuC where
 id:Int
 kind:Int
 fr:Int
 un:Int
 nv:Value
 xv:Value
deriving Inhabited
def AuC.cells (x:AuC):List Value:=[.int .i64 x.id,.int .i64 x.kind,.int .i64 x.fr,.int .i64 x.un,x.nv,x.xv]
def AuC.agg (x:AuC):Value:=.agg #[.int .i64 x.id,.int .i64 x.kind,.int .i64 x.fr,.int .i64 x.un,x.nv,x.xv]
def SlA (w:World) (v:Value) (l:List AuC):Prop:=Rd w 6 v (l.flatMap AuC.cells)
theorem SlA.mono {w w':World} {v:Value} {l:List AuC} (h:SlA w v l) (hg:Grew w w'):SlA w' v l:=Rd.mono h hg
theorem SlA.nil (w:World):SlA w (.slice none 0 0) []:=Rd.nil w _
theorem SlA.open_ {w : World} {v : Value} {l : List AuC} (h : SlA w v l) : ∃ (A : Option Addr) (c : Nat), v = .slice A l.length c ∧ l.length ≤ c ∧ c ≤ maxLen ∧
      (0 < l.length → ∃ b off, A = some ⟨b, off, none⟩ ∧ b < w.heap.size ∧ ∀ W, Grew w W → ∀ i (hi : i < l.length), W.cell? ⟨b, off + i * 6, none⟩ = some (.int .i64 l[i].id) ∧ W.cell? ⟨b, off + i * 6 + 1, none⟩ = some (.int .i64 l[i].kind) ∧ W.cell? ⟨b, off + i * 6 + 2, none⟩ = some (.int .i64 l[i].fr) ∧ W.cell? ⟨b, off + i * 6 + 3, none⟩ = some (.int .i64 l[i].un) ∧ W.cell? ⟨b, off + i * 6 + 4, none⟩ = some (l[i].nv) ∧ W.cell? ⟨b, off + i * 6 + 5, none⟩ = some (l[i].xv)) := by
 obtain⟨A,c,hv,hn,hm,hr⟩:=Rd.open_ (k:=6) (f:=AuC.cells) (fun _=>rfl) b_37 h
 refine⟨A,c,hv,hn,hm,fun h0=>?_⟩
 obtain⟨b,off,hA,hb,hc⟩:=hr h0
 exact⟨b,off,hA,hb,fun W hW i hi=>⟨by simpa [AuC.cells] using hc W hW i hi 0 b_37,by simpa [AuC.cells] using hc W hW i hi 1 b_37,by simpa [AuC.cells] using hc W hW i hi 2 b_37,by simpa [AuC.cells] using hc W hW i hi 3 b_37,by simpa [AuC.cells] using hc W hW i hi 4 b_37,by simpa [AuC.cells] using hc W hW i hi 5 b_37⟩⟩
structure BrC where
 id:Int
 parent:Int
 level:Int
 title:ByteArray
 mark:ByteArray
 kv:Value
deriving Inhabited
def BrC.cells (x:BrC):List Value:=[.int .i64 x.id,.int .i64 x.parent,.int .i64 x.level,.string x.title,.string x.mark,x.kv]
def BrC.agg (x:BrC):Value:=.agg #[.int .i64 x.id,.int .i64 x.parent,.int .i64 x.level,.string x.title,.string x.mark,x.kv]
def SlB (w:World) (v:Value) (l:List BrC):Prop:=Rd w 6 v (l.flatMap BrC.cells)
theorem SlB.mono {w w':World} {v:Value} {l:List BrC} (h:SlB w v l) (hg:Grew w w'):SlB w' v l:=Rd.mono h hg
theorem SlB.nil (w:World):SlB w (.slice none 0 0) []:=Rd.nil w _
theorem SlB.open_ {w : World} {v : Value} {l : List BrC} (h : SlB w v l) : ∃ (A : Option Addr) (c : Nat), v = .slice A l.length c ∧ l.length ≤ c ∧ c ≤ maxLen ∧
      (0 < l.length → ∃ b off, A = some ⟨b, off, none⟩ ∧ b < w.heap.size ∧ ∀ W, Grew w W → ∀ i (hi : i < l.length), W.cell? ⟨b, off + i * 6, none⟩ = some (.int .i64 l[i].id) ∧ W.cell? ⟨b, off + i * 6 + 1, none⟩ = some (.int .i64 l[i].parent) ∧ W.cell? ⟨b, off + i * 6 + 2, none⟩ = some (.int .i64 l[i].level) ∧ W.cell? ⟨b, off + i * 6 + 3, none⟩ = some (.string l[i].title) ∧ W.cell? ⟨b, off + i * 6 + 4, none⟩ = some (.string l[i].mark) ∧ W.cell? ⟨b, off + i * 6 + 5, none⟩ = some (l[i].kv)) := by
 obtain⟨A,c,hv,hn,hm,hr⟩:=Rd.open_ (k:=6) (f:=BrC.cells) (fun _=>rfl) b_37 h
 refine⟨A,c,hv,hn,hm,fun h0=>?_⟩
 obtain⟨b,off,hA,hb,hc⟩:=hr h0
 exact⟨b,off,hA,hb,fun W hW i hi=>⟨by simpa [BrC.cells] using hc W hW i hi 0 b_37,by simpa [BrC.cells] using hc W hW i hi 1 b_37,by simpa [BrC.cells] using hc W hW i hi 2 b_37,by simpa [BrC.cells] using hc W hW i hi 3 b_37,by simpa [BrC.cells] using hc W hW i hi 4 b_37,by simpa [BrC.cells] using hc W hW i hi 5 b_37⟩⟩
end Go.Proofs.YtafncfomiolmgaaGreatDoor
namespace Go.Proofs.YtafncfomiolmgaaGreatDoor
open Go.RowKit
set_option maxRecDepth 100000 in
theorem c_52 {p:Prop} (h:p:=by
 intro j u hu
 have h0:0<l.length:=by
  rcases Nat.eq_zero_or_pos l.length with h|h
  ·have:=(List.getElem?_eq_some_iff.1 hu).1
   rw[hfl,h] at this
   omega
  ·exact h
 obtain⟨b,off,hA,_,hcell⟩:=hr h0
 cases hA
 rw[add_lit]
 exact hcell j u hu):p:=h
set_option maxHeartbeats 1000000 in
theorem indexI (l:List Int) (x:Int) (v:Value) (w:World) (hv:SlI w v l) :
  Calls Tryz.prog 35 #[v,.int .i64 x] w fun e w'=>e=.returned (.int .i64 (idxP (fun y=>(x == y)) l))∧w=w':=by
 obtain⟨A,c,rfl,hlc,hc,hr⟩:=hv.open_
 unfold maxLen at hc
 have HR:=uZ hr
 clear hr hv
 generalize hp:(fun y:Int=>(x == y))=p
 have HP:=uZ hp
 clear hp
 go_enter Tryz.func35,Tryz.ntmps35
 go_wp2
 go_loop [5,8] (fun _ s8=>∃ kk:Nat,kk≤l.length∧s8=.int .i64 kk∧Aside (∀ i (hi:i<l.length),i<kk→p l[i]=false)) (fun _ i=>l.length-(intOf i).toNat)
 case atStart=>exact⟨0,Nat.zero_le _,rfl,fun i hi h=>absurd h (Nat.not_lt_zero _)⟩
 case round =>
  obtain⟨kk,hkk,rfl,M⟩:=hrel
  by_cases hlt:kk<l.length
  ·obtain⟨b,off,rfl,hb,hcell⟩:=HR.out b_37
   have c0:=hcell w (uX w) kk hlt
   clear hcell
   have hq0:p l[kk]=(x == l[kk]):=by rw[← HP.out]
   generalize hy:l[kk]=y at c0 hq0
   have B:Aside (l[kk]=y):=hy
   clear hy
   cases hq:p y with
   | true =>
    rw[hq] at hq0
    have hq1:=hq0.symm
    have Hq:Aside (p y=true):=hq
    clear hq0 hq
    go_wp2
    go_ret
    refine⟨?_,rfl⟩
    rw[idxP_hit p l kk hlt (by rw[B.out];exact Hq.out) M.out]
    rfl
   | false =>
    rw[hq] at hq0
    have hq1:=hq0.symm
    have Hq:Aside (p y=false):=hq
    clear hq0 hq
    go_wp2
    go_round
    case measure=>simp[intOf];omega
    case rel =>
     refine⟨kk+1,by omega,by go_num,(show Aside _ from fun i hi h=>?_)⟩
     by_cases e:i=kk
     ·subst e
      rw[B.out];exact Hq.out
     ·exact M.out i hi b_37
  ·go_wp2
   go_ret
   refine⟨?_,rfl⟩
   rw[idxP_miss p l (fun i hi=>M.out i hi b_37)]
   rfl
theorem containsI (l:List Int) (x:Int) (v:Value) (w:World) (hv:SlI w v l) :
  Calls Tryz.prog 88 #[v,.int .i64 x] w fun e w'=>e=.returned (.bool (l.any fun y=>(x == y)))∧w=w':=by
 have hi:=uZ (indexI l x v w hv)
 have hd:=idxP_any (fun y=>(x == y)) l
 generalize idxP (fun y=>(x == y)) l=i at hi hd
 have Hd:=uZ hd
 clear hv hd
 go_enter Tryz.func88,Tryz.ntmps88
 go_wp2_with (first|(go_at_call 35;refine hi.out.mono ?_;rintro e w1 ⟨rfl,rfl⟩))
 go_ret
 exact⟨ret_bool Hd.out,rfl⟩
theorem cinfoI:(Tryz.prog.info? 3).map (fun i=>(i.zero,i.size,i.bytes))=some (some (.int .i64 0),1,8):=by kernel_rfl
theorem one_cellsI (l:List Int):∀ u∈l.flatMap oneI,u.oneCell'=true:=by
 intro u hu
 rw[List.mem_flatMap] at hu
 obtain⟨x,_,hx⟩:=hu
 simp[oneI] at hx
 rcases hx with rfl<;>rfl
set_option maxHeartbeats 1000000 in
theorem cloneI (l:List Int) (v:Value) (w:World) (hv:SlI w v l) (hb:l.length*8≤140737488355328) :
  Calls Tryz.prog 32 #[v] w fun e w'=>∃ v',e=.returned v'∧w'.ownsRow w.heap.size 3 1 v' l.length (l.flatMap oneI)∧Grew w w':=by
 obtain⟨A,n,c,rfl,hl,hn,hc,hr⟩:=hv
 have hfl:=flatMap_len oneI 1 (fun _=>rfl) l
 obtain rfl:n=l.length:=by omega
 unfold maxLen at hc
 have q22:∀(w:World) (a:Option Addr) (n c:Nat),(binOp .eql 32 (.slice a n c) (.slice none 0 0)).run Tryz.prog w=.ok (.bool a.isNone) w:=fun w a n c=>Lib.run_eql_slice_nil w _ _ a n c 0 0 Tryz.underlying32
 cases A with
 | none =>
  have h0:l.length=0:=by
   rcases Nat.eq_zero_or_pos l.length with h|h
   ·exact h
   ·obtain⟨b,off,hA,_⟩:=hr h
    cases hA
  obtain rfl:l=[]:=List.eq_nil_of_length_eq_zero h0
  clear hr hl hn hfl h0 hb
  go_enter Tryz.func32,Tryz.ntmps32
  go_wp2
  go_ret
  exact⟨_,rfl,World.ownsRow_nil _ _ _ _,uX w⟩
 | some ad =>
  have hcells:∀ j u,(l.flatMap oneI)[j]? = some u→w.cell? (ad.add j)=some u:=by
   exact c_52
  have HC:=uZ hcells
  have H1:=uZ (one_cellsI l)
  have HL:=uZ hl
  generalize l.flatMap oneI=cs at HC H1 HL ⊢
  clear hcells hr hl hfl
  obtain⟨i0,hi,hz0,hz1,hz2⟩:=info_parts cinfoI
  go_enter Tryz.func32,Tryz.ntmps32
  go_wp2_with (at_builtin;refine wpList_append_own _ rfl _ _ 32 rfl w.heap.size 3 i0 (.int .i64 0) 1 8 Tryz.underlying32 hi hz0 hz1 hz2 rfl b_37 _ _ _ rfl (World.ownsRow_made w #[] 0 (Nat.le_refl _) (Nat.zero_le _) b_38) ad l.length c cs rfl ?qc1 ?qc2 ?qc3 ?qc4 ?qc5 ?qc6 ?_)
  case qc1=>exact HL.out
  case qc2=>exact fun j u hu=>(Grew.cell ((uX w).alloc _) (by
   have:=block_lt_of_cell (HC.out j u hu)
   exact this)).trans (HC.out j u hu)
  case qc3=>exact H1.out
  case qc4=>unfold maxLen;omega
  case qc5=>omega
  case qc6=>simp
  intro v' w1 hown hgrow _
  go_wp2
  go_ret
  refine⟨v',rfl,by simpa using hown,?_⟩
  exact Below.grown ((Below.refl w.heap.size w).alloc (Nat.le_refl _) _) hgrow b_38 (fun k hk=>by simp[Value.ownBlock] at hk;omega)
end Go.Proofs.YtafncfomiolmgaaGreatDoor
namespace Go.Proofs.YtafncfomiolmgaaGreatDoor
open Go.RowKit
def Fresh (n:Nat) (v:Value):Prop:=∀ k,v.ownBlock=some k→n≤k
theorem Fresh.nil (n c d:Nat):Fresh n (.slice none c d):=fun k hk=>by simp[Value.ownBlock] at hk
theorem Fresh.at_ {n b o c d:Nat} {s:Option Nat} (h:n≤b):Fresh n (.slice (some ⟨b,o,s⟩) c d):=fun k hk=>by simp[Value.ownBlock] at hk;omega
theorem Fresh.own {w:World} {base:Nat} {e:TypeId} {k:Nat} {v:Value} {n:Nat} {xs:List Value} (h:w.ownsRow base e k v n xs):Fresh base v:=fun k hk=>(h.lt k hk).1
theorem Fresh.le {m n:Nat} {v:Value} (h:Fresh n v) (hm:m≤n):Fresh m v:=fun k hk=>Nat.le_trans hm (h k hk)
theorem flat_take {α:Type} {f:α→List Value} {k:Nat} (hk:∀ x,(f x).length=k) (l:List α) (i:Nat):(l.flatMap f).take (i*k)=(l.take i).flatMap f∧(l.flatMap f).drop (i*k)=(l.drop i).flatMap f:=by
 induction l generalizing i with
 | nil=>simp
 | cons x r ih =>
  cases i with
  | zero=>simp
  | succ i =>
   have e:(i+1)*k=(f x).length+i*k:=by rw[hk,Nat.succ_mul];omega
   rw[List.flatMap_cons,e,List.take_length_add_append,List.drop_length_add_append,(ih i).1,(ih i).2]
   simp
end Go.Proofs.YtafncfomiolmgaaGreatDoor
namespace Go.Proofs.YtafncfomiolmgaaGreatDoor
open Go.RowKit
def Lies (n:Nat) (w:World) (v:Value):Prop:=∀ k,v.ownBlock=some k→n≤k∧k<w.heap.size
theorem Lies.mono {n:Nat} {w w':World} {v:Value} (h:Lies n w v) (hs:w.heap.size≤w'.heap.size):Lies n w' v:=fun k hk=>⟨(h k hk).1,Nat.lt_of_lt_of_le (h k hk).2 hs⟩
theorem append_lit {P:Program} (w:World) (t ty e:TypeId) (i:TypeInfo) (z:Value) (size bytes:Nat) (ht:P.underlying t=some (.slice e)) (hi:P.info? e=some i) (hz:i.zero=some z)
  (hsize:i.size=size) (hby:i.bytes=bytes) (hsz:0<size) (g:Nat) (u:Value) (m:Nat) (cs:List Value) (hu:Rd w size u cs) (hl:cs.length=m*size)
  (h63:m≤maxLen) (hbytes:m*bytes≤140737488355328) (base:Nat) (hb:base≤g) (hg:g<w.heap.size) :
  ∃ A n c w',(Builtin.append_ #[t,t] ty #[.slice (some ⟨g,0,none⟩) 0 0,u]).run P w=.ok (.slice A n c) w'∧Rd w' size (.slice A n c) cs∧Grew w w'∧Lies base w' (.slice A n c):=by
 subst hsize
 subst hby
 obtain⟨A,m',c,rfl,hl',hmc,hcm,hr⟩:=hu
 obtain rfl:m'=m:=Nat.eq_of_mul_eq_mul_right hsz (hl'.symm.trans hl)
 rcases Nat.eq_zero_or_pos m' with h0|h0
 ·subst h0
  have hcs:cs=[]:=List.eq_nil_of_length_eq_zero b_37
  subst hcs
  refine⟨some ⟨g,0,none⟩,0,0,w,?_,⟨_,0,0,rfl,by simp,Nat.le_refl _,Nat.zero_le _,fun h=>absurd h (Nat.lt_irrefl _)⟩,uX w,fun k hk=>by simp[Value.ownBlock] at hk;omega⟩
  cases A with
  | none=>simp[Builtin.append_,run_underlying ht,sizeOf,typeInfo,hi,Builtin.lenOf,Builtin.firstCells,storeCells]
  | some ad=>simp[Builtin.append_,run_underlying ht,sizeOf,typeInfo,hi,Builtin.lenOf,Builtin.firstCells,loadCells,loadCellsFrom,storeCells]
 ·obtain⟨b,off,rfl,hbl,hcell⟩:=hr h0
  unfold maxLen at h63
  have hrun:=run_append_grow (P:=P) w t ty e i z ht hi hz ⟨g,0,none⟩ 0 0 [] b_38 (fun j v hj=>by simp at hj) ⟨b,off,none⟩ m' c cs hl (fun j v hj=>by rw[add_lit];exact hcell j v hj) b_37 b_37 (growslice_fits b_37 (by simpa using hbytes))
  refine⟨_,_,_,_,hrun,?_,((uX w).drew).alloc _,fun k hk=>by simp[Value.ownBlock] at hk;subst hk;exact⟨by omega,by simp⟩⟩
  have hge:=grownCap_ge w (0+m') 0 e
  have hle:=grownCap_le_maxLen w (0+m') 0 e b_34
  refine⟨_,_,_,rfl,by rw[hl];simp,hge,hle,fun _=>⟨w.heap.size,0,rfl,by simp,fun j x hj=>?_⟩⟩
  have hlast:=heap_alloc_last w.drew (.cells (([]:List Value).toArray++cs.toArray++Builtin.zeroCells z.cells (grownCap w (0+m') 0 e-(0+m'))) e)
  have hcl:=cell_of_row _ _ (0+j) _ _ _ hlast
  have hjl:=(List.getElem?_eq_some_iff.1 hj).1
  refine hcl.trans ?_
  rw[Nat.zero_add]
  simp[Array.getElem?_append,hjl] 
  exact List.getElem?_eq_some_iff.1 hj |>.2
theorem rd_grown {w w':World} {row:Option Nat} {k:Nat} {v:Value} {cs:List Value} (h:Rd w k v cs) (hg:w.grownBy w' row) (hr:∀ b,v.ownBlock=some b→row≠some b):Rd w' k v cs:=by
 obtain⟨A,n,c,rfl,hl,hn,hc,h0⟩:=h
 refine⟨A,n,c,rfl,hl,hn,hc,fun hp=>?_⟩
 obtain⟨b,off,rfl,hb,hcell⟩:=h0 hp
 exact⟨b,off,rfl,Nat.lt_of_lt_of_le hb hg.size,fun j u hu=>hg.cell (hcell j u hu) (fun e=>hr b rfl e.symm)⟩
end Go.Proofs.YtafncfomiolmgaaGreatDoor