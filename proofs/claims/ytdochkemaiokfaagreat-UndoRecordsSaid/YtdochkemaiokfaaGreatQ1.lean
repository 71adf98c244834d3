/- Lemmas on what the functions of the program and of the library compute: Base, Types, TypesR, Nest, PlainN, PlainR, Shelf, A1. The conditions stand at each. -/
import Derived.WalkKit
import Derived.WalkSpells
import Derived.WalkLawsBesides
import Derived.Lib.Hide
import Derived.BigGuardPart
import Derived.Deep.LoopGhost
import Derived.Deep.QuietTactic
import Derived.BigQuiet
import Derived.Deep.Draws
import Derived.Laws.Cells
import Derived.Deep.DeepFit
import Derived.Shelf.Abstract
import Derived.Deep.WholeRow
import Derived.Deep.MidRow
import Derived.Lib.SliceRun
import Derived.StillTailTactics
import Derived.Test.YtdochkemaiokfaaGreatProg
import Derived.Shelf.GgClosure.StringsIndexFunc
import Derived.Lib.IndexMore
import Derived.Shelf.Small.Bits
import Derived.Shelf.Small.Strs
import Derived.Shelf.Small.Wraps
import Derived.Shelf.Strings.Search3
import Derived.Shelf.LaysM
import Derived.Shelf.Strings.Shaped
import Derived.Shelf.Sort.Plain
import Derived.Shelf.Strings.FuncGrows
import Derived.Shelf.Slices.Reverse
import Derived.Ground.Names2Prog
import Derived.Shelf.Slices.SearchI
import Derived.Shelf.Slices.In.SortNone
import Derived.Lib.AppendIntMem
set_option maxHeartbeats 16000000
set_option maxRecDepth 100000
set_option linter.all false
namespace Go.Proofs.YtdochkemaiokfaaGreat
open Go.RowKit
theorem b_1 {p:Prop} (h:p:=by repeat (first|exact uX _|exact GQ3.out|exact GQ2.out|exact GQ1.out|refine uJ ?_|refine uU ?_ _|refine yZ ?_ (by first|exact Nat.le_refl _|exact GQ3.out.size|exact GQ2.out.size|exact GQ1.out.size|simp) _)):p:=h
theorem b_2 {p:Prop} (h:p:=by first|exact gE _ rfl _ (by simp)|exact eO rfl (by decide) (by omega) (fun j u hu=>by rcases j with _|_|_|_|j<;>simp at hu<;>(try (subst hu;exact X1.out _ _ (by simp) (by change some _≠some _;simp))))):p:=h
theorem b_3 {p:Prop} (h:p:=by repeat (with_reducible first|exact uX _|exact GZ.out|refine uJ ?_|refine uU ?_ _|refine yZ ?_ (by first|exact Nat.le_refl _|exact GZ.out.size|simp) _)):p:=h
theorem b_4 {p:Prop} (h:p:=by first|exact jQ _ (by simp) j u hu|exact uQ ((uX _).alloc _) (jQ _ (by simp) j u hu)|exact uQ (((uX _).alloc _).alloc _) (jQ _ (by simp) j u hu)):p:=h
theorem b_5 {p:Prop} (h:p:=by repeat (with_reducible first|exact uX _|refine uJ ?_|refine uU ?_ _|refine yZ ?_ (by first|exact Nat.le_refl _|simp) _)):p:=h
theorem b_6 {p:Prop} (h:p:=by repeat (first|exact uX _|exact G3a.out|exact G2a.out|exact G1a.out|refine uJ ?_|refine aA.drewN ?_ _|refine uU ?_ _)):p:=h
theorem b_7 {p:Prop} (h:p:=by rw[length_splice _ _ _ (by rw[HC.out];simp only [List.length_append];omega),HC.out];simp only [List.length_append];omega):p:=h
theorem b_8 {p:Prop} (h:p:=by repeat (with_reducible first|exact uX _|exact G3.out|exact G2.out|exact G1.out|refine uJ ?_|refine uU ?_ _)):p:=h
theorem b_9 {p:Prop} (h:p:=by repeat (first|exact uX _|exact G3a.out|exact G2a.out|exact G1a.out|refine uJ ?_|refine uU ?_ _)):p:=h
theorem b_10 {p:Prop} (h:p:=by repeat (with_reducible first|exact uX _|exact GZ.out|exact GQ.out|refine uJ ?_|refine uU ?_ _)):p:=h
theorem b_11 {p:Prop} (h:p:=by repeat (with_reducible first|exact uX _|refine uJ ?_|refine aA.drewN ?_ _|refine uU ?_ _)):p:=h
theorem b_12 {p:Prop} (h:p:=by unfold cW;rw[if_neg (by show ¬ ok=1;rw[HK2.out];decide),if_pos HK2.out];exact hf0):p:=h
theorem b_13 {p:Prop} (h:p:=by repeat (with_reducible first|exact uX _|exact GZ.out|refine uJ ?_|refine uU ?_ _)):p:=h
theorem b_14 {p:Prop} (h:p:=by repeat (first|exact fS _ (by simp) (by simp)|refine World.ownsRow.alloc ?_ _)):p:=h
theorem b_15 {p:Prop} (h:p:=by repeat (with_reducible first|exact G1.out|refine uU ?_ _|refine uJ ?_)):p:=h
theorem b_16 {p:Prop} (h:p:=by repeat (first|exact uX _|exact HB2.out|refine uU ?_ _|refine uJ ?_)):p:=h
theorem b_17 {p:Prop} (h:p:=by repeat (first|exact uX _|exact GQ1.out|refine uJ ?_|refine uU ?_ _)):p:=h
theorem b_18 {p:Prop} (h:p:=by repeat (first|exact G2.out|exact uX w|refine uU ?_ _|refine uJ ?_)):p:=h
theorem b_19 {p:Prop} (h:p:=by repeat (first|exact G3.out|exact uX w|refine uU ?_ _|refine uJ ?_)):p:=h
theorem b_20 {p:Prop} (h:p:=by repeat (with_reducible first|exact uX _|refine uJ ?_|refine uU ?_ _)):p:=h
theorem b_21 {p:Prop} (h:p:=by repeat (with_reducible first|exact uX _|refine uU ?_ _|refine uJ ?_)):p:=h
theorem b_22 {p:Prop} (h:p:=by repeat (first|exact uX _|exact G8.out|refine uJ ?_|refine uU ?_ _)):p:=h
theorem b_23 {p:Prop} (h:p:=by rw[← HRES.out];simp[H5.out,HM.out,HK6.out,HP1.out,HP9.out]):p:=h
theorem b_24 {p:Prop} (h:p:=by repeat (first|exact O1.out|refine World.ownsRow.alloc ?_ _)):p:=h
theorem b_25 {p:Prop} (h:p:=by repeat (first|exact uX w|refine uU ?_ _|refine uJ ?_)):p:=h
theorem b_26 {p:Prop} (h:p:=by repeat (first|exact uX _|refine uU ?_ _|refine uJ ?_)):p:=h
theorem b_27 {p:Prop} (h:p:=by repeat (first|exact uX _|refine uJ ?_|refine uU ?_ _)):p:=h
theorem b_28 {p:Prop} (h:p:=by rw[← HRES.out];simp[H5.out,HK6.out,HP1.out,HP9.out]):p:=h
theorem b_29 {p:Prop} (h:p:=by rw[HC.out];simp only [List.length_append];omega):p:=h
theorem b_30 {p:Prop} (h:p:=by first|exact GB3.out|exact GB2.out|exact uX _):p:=h
theorem b_31 {p:Prop} (h:p:=by simp[results,Tryz.results67,go_sem,q0f,q1f]):p:=h
theorem b_32 {p:Prop} (h:p:=by simp[results,Tryz.results102,go_sem,p0,p1]):p:=h
theorem b_33 {p:Prop} (h:p:=by simp[results,Tryz.results104,go_sem,p0,p1]):p:=h
theorem b_34 {p:Prop} (h:p:=by simp[results,Tryz.results101,go_sem,p0,p1]):p:=h
theorem b_35 {p:Prop} (h:p:=by simp[results,Tryz.results70,go_sem,p0,p1]):p:=h
theorem b_36 {p:Prop} (h:p:=by show w.heap.size≤w.heap.size+1+1;omega):p:=h
theorem b_37 {p:Prop} (h:p:=by repeat (first|exact uX _|refine uJ ?_)):p:=h
theorem b_38 {p:Prop} (h:p:=by show w.heap.size≤w.heap.size+1;omega):p:=h
theorem b_39 {p:Prop} (h:p:=by simp[results,Tryz.results43,go_sem]):p:=h
theorem b_40 {p:Prop} (h:p:=by rw[List.length_append];omega):p:=h
theorem b_41 {p:Prop} (h:p:=by rw[List.length_take];omega):p:=h
theorem b_42 {p:Prop} (h:p:=by change some _≠some _;simp):p:=h
theorem b_43 {p:Prop} (h:p:=by simp[World.frozen?,hv]):p:=h
theorem b_44 {p:Prop} (h:p:=by with_reducible exact gq):p:=h
theorem b_45 {p:Prop} (h:p:=by simp[Value.oneCell']):p:=h
theorem b_46 {p:Prop} (h:p:=by first|rfl|trivial):p:=h
theorem b_47 {p:Prop} (h:p:=by unfold maxLen;omega):p:=h
theorem b_48 {p:Prop} (h:p:=by rw[h];decide):p:=h
theorem b_49 {p:Prop} (h:p:=by simpa using h):p:=h
theorem b_50 {p:Prop} (h:p:=by simp;omega):p:=h
theorem b_51 {p:Prop} (h:p:=by assumption):p:=h
theorem b_52 {p:Prop} (h:p:=by decide):p:=h
theorem b_53 {p:Prop} (h:p:=by omega):p:=h
theorem b_54 {p:Prop} (h:p:=by simp):p:=h
theorem b_55 {p:Prop} (h:p:=by rfl):p:=h
theorem c_84 {p:Prop} (h:p:=by
 clear HQ;go_wp2_with fail;refine(KA.out _ HG2.out).mono ?_;rintro e wz ⟨rfl,g3⟩;have HG3:=uZ (HG2.out.trans g3);clear g3;dsimp only;go_wp2;go_ret;exact⟨rfl,HG3.out⟩
):p:=h
theorem c_108 {p:Prop} (h:p:=by
 subst he;exact⟨_,rfl,sR aCx rfl (by kernel_rfl) Tryz.underlying4 (by kernel_rfl) hW' rfl hg⟩
):p:=h
theorem c_110 {p:Prop} (h:p:=by
 unfold joinedFacts;rw[its_inPlace,its_unfollowed,its_recurses,its_named];kernel_rfl
):p:=h
theorem h_103 {p:Prop} (h:p:=by
 exact uZ (oB HX2.out HG2.out (a:=.slice RA t.roots.length ra) (b:=.slice RB t.brs.length rb) b_54 HT2.out)
):p:=h
theorem h_135 {p:Prop} (h:p:=by
 exact uZ (oB HX1.out HG1.out (a:=.slice none 0 0) (b:=.slice none 0 0) b_54 (iG _))
):p:=h
theorem h_138 {p:Prop} (h:p:=by
 exact(show Tryz.prog.underlying 62=some (.struct (Tryz.prog.fieldsOf 62)) from by kernel_rfl)
):p:=h
theorem h_147 {p:Prop} (h:p:=by
 exact uZ (fun W (g:aA w W) (h:l.length≤24)=>vR l lv W (hv.mono g) b_53)
):p:=h
theorem h_150 {p:Prop} (h:p:=by
 exact(show w1.cell? ⟨w.heap.size,0,none⟩=some (.slice none 0 0) from aC HX1.out rfl)
):p:=h
theorem h_151 {p:Prop} (h:p:=by
 exact(show w1.cell? ⟨w.heap.size,1,none⟩=some (.slice none 0 0) from aC HX1.out rfl)
):p:=h
theorem h_173 {p:Prop} (h:p:=by
 exact(show((l.length:Int) != (l.length:Int))=false from by simp)
):p:=h
theorem h_181 {p:Prop} (h:p:=by
 exact(show w1.frozen? ⟨w.heap.size,0,none⟩=false from aS HX1.out)
):p:=h
theorem h_182 {p:Prop} (h:p:=by
 exact(show w1.frozen? ⟨w.heap.size,1,none⟩=false from aS HX1.out)
):p:=h
theorem h_187 {p:Prop} (h:p:=by
 exact uZ (fun W (g:aA w W)=>jI l hm hlen lv W (hv.mono g))
):p:=h
theorem h_214 {p:Prop} (h:p:=by
 exact(show(0:Int)≤(kk:Int) from by omega)
):p:=h
theorem s_20 {p:Prop} (h:p:=by
 obtain⟨w3,hw3⟩:∃ w3,w2.alloc (.cells #[.slice RA t.roots.length ra,.slice RB t.brs.length rb] 43)=w3:=⟨_,rfl⟩
 rw[hw3] at HX2 HG2 HN2 HT2;have x0:w3.cell? ⟨w2.heap.size,0,none⟩=some (.slice RA t.roots.length ra):=aC HN2.out rfl;have x1:w3.cell? ⟨w2.heap.size,1,none⟩=some (.slice RB t.brs.length rb):=aC HN2.out rfl;have r0:w3.cell? ⟨w.heap.size,0,none⟩=some (.slice none 0 0):=aC HX2.out rfl;have r1:w3.cell? ⟨w.heap.size,1,none⟩=some (.slice none 0 0):=aC HX2.out rfl;have z0:w3.frozen? ⟨w.heap.size,0,none⟩=false:=aS HX2.out;have z1:w3.frozen? ⟨w.heap.size,1,none⟩=false:=aS HX2.out;have HF:=h_103;dsimp only;go_wp2;obtain⟨q0,q1,qt,qg⟩:=HF.out;exact nX.g
):p:=h
def aA (w w':World):Prop:=Below w.heap.size w w'
section
variable {a b c w w':World}
theorem aA.refl (w:World):aA w w:=Below.refl _ _
theorem aA.trans (h:aA a b) (k:aA b c):aA a c:=Below.trans h (Below.mono k (Below.size h))
theorem aA.size (h:aA a b):a.heap.size≤b.heap.size:=Below.size h
theorem aA.alloc (h:aA a w) (o:Obj):aA a (w.alloc o):=Below.alloc h (Below.size h) o
theorem aA.drew (h:aA a w):aA a w.drew:=Below.drew h
theorem aA.drewN (h:aA a w) (n:Nat):aA a (w.drewN n):=⟨h.os,h.tape,h.output,h.size,h.block⟩
theorem aA.setCell (h:aA a w) {p:Addr} (hp:a.heap.size≤p.block) (u:Value):aA a (w.setCell p u):=Below.setCell h hp u
theorem aA.cell (h:aA a b) {p:Addr} (hp:p.block<a.heap.size):b.cell? p=a.cell? p:=Below.cell h hp
theorem aA.frozen (h:aA a b) {p:Addr} (hp:p.block<a.heap.size):b.frozen? p=a.frozen? p:=Below.frozen h hp
theorem aA.cells (h:aA a b):(∀ bl o,bl<a.heap.size→b.cell? ⟨bl,o,none⟩=a.cell? ⟨bl,o,none⟩)∧(∀ bl o,bl<a.heap.size→b.frozen? ⟨bl,o,none⟩=a.frozen? ⟨bl,o,none⟩) :=
 ⟨fun _ _ hb=>h.cell hb,fun _ _ hb=>h.frozen hb⟩
theorem aA.below (h:aA a b):Below a.heap.size a b:=h
end
def Rd (w:World) (k:Nat) (v:Value) (cs:List Value):Prop :=
 ∃(A:Option Addr) (n c:Nat),v=.slice A n c∧cs.length=n*k∧n≤c∧c≤maxLen ∧
  (0<n→∃ b off,A=some ⟨b,off,none⟩∧b<w.heap.size∧∀ j u,cs[j]? = some u→w.cell? ⟨b,off+j,none⟩=some u)
theorem Rd.mono {w w':World} {k:Nat} {v:Value} {cs:List Value} (h:Rd w k v cs) (hg:aA w w'):Rd w' k v cs:=by
 obtain⟨A,n,c,hv,hl,hn,hc,hr⟩:=h;refine⟨A,n,c,hv,hl,hn,hc,fun h0=>?_⟩;obtain⟨b,off,hA,hb,hcell⟩:=hr h0;exact⟨b,off,hA,Nat.lt_of_lt_of_le hb hg.size,fun j u hu=>(hg.cell hb).trans (hcell j u hu)⟩
theorem Rd.nil (w:World) (k:Nat):Rd w k (.slice none 0 0) []:=⟨none,0,0,rfl,by simp,Nat.le_refl _,Nat.zero_le _,fun h=>absurd h (Nat.lt_irrefl _)⟩
theorem Rd.fresh (w:World) (e:TypeId) (k n:Nat) (cs:List Value) (h:cs.length=n*k) (hn:n≤maxLen):Rd (w.alloc (.cells cs.toArray e)) k (.slice (some ⟨w.heap.size,0,none⟩) n n) cs:=by
 refine⟨_,n,n,rfl,h,Nat.le_refl _,hn,fun _=>⟨w.heap.size,0,rfl,by simp,fun j u hu=>?_⟩⟩;have hlast:(w.alloc (.cells cs.toArray e)).heap[w.heap.size]? = some (.cells cs.toArray e):=heap_alloc_last w _;rw[cell_of_row _ _ _ _ _ _ hlast];simpa using hu
theorem cA {k:IntKind} {a b:Int} (h:a=b):Ending.returned (.int k a)=.returned (.int k b):=by rw[h]
theorem aV {a b:Bool} (h:a=b):Ending.returned (.bool a)=.returned (.bool b):=by rw[h]
theorem bT (b off j:Nat):(⟨b,off,none⟩:Addr).add j=⟨b,off+j,none⟩:=by
 unfold Addr.add;split
 ·next h=>subst h;rfl
 ·rfl
def gJ {α:Type} (p:α→Bool):List α→Nat→Int
 | [],_=>-1
 | x::r,i=>if p x then(i:Int) else gJ p r (i+1)
def lL {α:Type} (p:α→Bool) (l:List α):Int:=gJ p l 0
theorem aDd {α:Type} (p:α→Bool) (l:List α) (j k:Nat) (hk:k<l.length) (hp:p l[k]=true) (h:∀ i (hi:i<l.length),i<k→p l[i]=false):gJ p l j=((j+k:Nat):Int):=by
 induction l generalizing j k with
 | nil=>simp at hk
 | cons x r ih =>
  cases k with
  | zero=>simp at hp;simp[gJ,hp]
  | succ k =>
   have h0:=h 0 b_54 b_53;simp only [List.getElem_cons_zero] at h0;rw[gJ,h0];simp only [Bool.false_eq_true,if_false];have e:=ih (j+1) k (by simpa using hk) (by simpa using hp) (fun i hi hik=>h (i+1) (Nat.succ_lt_succ hi) b_53);rw[e]
   congr 1
   omega
theorem aAe {α:Type} (p:α→Bool) (l:List α) (j:Nat) (h:∀ i (hi:i<l.length),p l[i]=false):gJ p l j=-1:=by
 induction l generalizing j with
 | nil=>rfl
 | cons x r ih =>
  have h0:=h 0 b_54;simp only [List.getElem_cons_zero] at h0;rw[gJ,h0];simp only [Bool.false_eq_true,if_false];exact ih (j+1) (fun i hi=>h (i+1) (Nat.succ_lt_succ hi))
theorem eW {α:Type} (p:α→Bool) (l:List α) (k:Nat) (hk:k<l.length) (hp:p l[k]=true) (h:∀ i (hi:i<l.length),i<k→p l[i]=false):lL p l=(k:Int):=by
 unfold lL;rw[aDd p l 0 k hk hp h];simp
theorem eA {α:Type} (p:α→Bool) (l:List α) (h:∀ i (hi:i<l.length),p l[i]=false):lL p l=-1:=aAe p l 0 h
theorem aDe {α:Type} (p:α→Bool) (l:List α) (j:Nat):decide (0≤gJ p l j)=l.any p:=by
 induction l generalizing j with
 | nil=>rfl
 | cons x r ih =>
  rw[gJ,List.any_cons];by_cases h:p x=true
  ·rw[if_pos h,h]
   simp
  ·simp only [Bool.not_eq_true] at h
   rw[h];simp only [Bool.false_eq_true,if_false,Bool.false_or];exact ih (j+1)
theorem pD {α:Type} (p:α→Bool) (l:List α):decide (0≤lL p l)=l.any p:=aDe p l 0
theorem mD {α:Type} (p:α→Bool) (l:List α) (h:l.any p=true):∃ m,∃ hm:m<l.length,p l[m]=true∧∀ i (hi:i<l.length),i<m→p l[i]=false:=by
 induction l with
 | nil=>simp at h
 | cons x r ih =>
  by_cases hx:p x=true
  ·exact⟨0,by simp,hx,fun i _ hi=>absurd hi (Nat.not_lt_zero _)⟩
  ·simp only [Bool.not_eq_true] at hx
   rw[List.any_cons,hx,Bool.false_or] at h;obtain⟨m,hm,h1,h2⟩:=ih h;refine⟨m+1,Nat.succ_lt_succ hm,h1,fun i hi hlt=>?_⟩
   cases i with
   | zero=>exact hx
   | succ i=>exact h2 i (Nat.lt_of_succ_lt_succ hi) b_53
theorem jA {base:Nat} {e:TypeId} {k g n cap:Nat}:∀(vs:List Value) (o:Nat) (w:World) (ds:List Value),w.ownsRow base e k (.slice (some ⟨g,0,none⟩) n cap) n ds →
  ∃ ds',(w.setCells g o vs).ownsRow base e k (.slice (some ⟨g,0,none⟩) n cap) n ds'∧w.grownBy (w.setCells g o vs) (some g)∧ds'.length=ds.length ∧
   (∀ t,t<o∨o+vs.length≤t→ds'[t]? = ds[t]?)∧(∀ t,t<vs.length→o+t<ds.length→ds'[o+t]? = vs[t]?)
 | [],o,w,ds,h=>⟨ds,h,World.grownBy.refl w _,rfl,fun _ _=>rfl,fun t ht=>absurd ht (Nat.not_lt_zero _)⟩
 | v::vs,o,w,ds,h=>by
  obtain⟨h1,hg1⟩:=h.stored o v;obtain⟨ds',h2,hg2,hl,ha,hb⟩:=jA vs (o+1) (w.setCell ⟨g,o,none⟩ v) (ds.set o v) h1;refine⟨ds',h2,hg1.trans hg2,by rw[hl,List.length_set],fun t ht=>?_,fun t ht htl=>?_⟩
  ·simp only [List.length_cons] at ht
   rw[ha t b_53,List.getElem?_set_ne b_53]
  ·cases t with
   | zero =>
    rw[Nat.add_zero,ha o b_53,List.getElem?_set_self b_53];rfl
   | succ t =>
    rw[show o+(t+1)=o+1+t by omega,hb t (by simpa using ht) (by rw[List.length_set];omega)];rfl
theorem eV {w:World} {base:Nat} {e:TypeId} {k g n cap:Nat} {ds:List Value} (h:w.ownsRow base e k (.slice (some ⟨g,0,none⟩) n cap) n ds) (t:Nat) (ht:t<n*k):∃ u,ds[t]? = some u∧w.cell? ⟨g,t,none⟩=some u:=by
 have hl:=h.1;refine⟨ds[t]'b_53,List.getElem?_eq_getElem b_53,?_⟩;rw[h.cellAt t ht];exact List.getElem?_eq_getElem b_53
theorem iI {P:Program} (w:World) (t e ty:TypeId) (z:Value) (k:Nat) (ht:P.underlying t=some (.slice e)) (hz:∀ w,(zeroValue e).run P w=.ok z w) (hk:z.cells.size=k) (h0:0<k) (h1:∀ u∈z.cells.toList,u.oneCell'=true)
  {base g n cap:Nat} {ds:List Value} (h:w.ownsRow base e k (.slice (some ⟨g,0,none⟩) n cap) n ds) (i c:Nat) (hi:i<n) :
  ∃ w' ds',(Builtin.clear_ #[t] ty #[.slice (some ⟨g,i*k,none⟩) (n-i) c]).run P w=.ok (.tuple #[]) w'∧w'.ownsRow base e k (.slice (some ⟨g,0,none⟩) n cap) n ds'∧w.grownBy w' (some g)∧∀ t,t<i*k→ds'[t]? = ds[t]?:=by
 have hlen:(Builtin.zeroCells z.cells (n-i)).toList.length=(n-i)*k:=by
  simp[Builtin.zeroCells,hk]
 have hone:∀ v∈(Builtin.zeroCells z.cells (n-i)).toList,v.oneCell'=true:=by
  intro v hv;simp only [Builtin.zeroCells,Array.toList_map,List.mem_map] at hv;obtain⟨j,_,rfl⟩:=hv;have hlt:j % z.cells.size<z.cells.size:=Nat.mod_lt _ b_53;rw[getElem!_pos z.cells _ hlt];exact h1 _ b_54
 have hle:(n-i)*k+i*k=n*k:=by rw[← Nat.add_mul];congr 1;omega
 obtain⟨ds',hd,hg,_,ha,_⟩:=jA (Builtin.zeroCells z.cells (n-i)).toList (i*k) w ds h
 have hst:=run_storeCells_cells (P:=P) g (i*k) (Builtin.zeroCells z.cells (n-i)).toList 0 w
  (fun j hj=>by
   obtain⟨u,_,hu⟩:=eV h (i*k+j) b_53
   simp[hu])
  (fun j hj=>h.frozenAt _) hone
 simp only [Nat.add_zero] at hst;refine⟨_,ds',?_,hd,hg,fun t ht=>ha t (.inl ht)⟩;obtain⟨m,hm⟩:∃ m,n-i=m+1:=⟨n-i-1,by omega⟩
 rw[hm] at hst ⊢;simp[Builtin.clear_,run_underlying ht,hz,hst]
theorem bN {P:Program} {id:Nat} {Q:Exit→Act→World→Prop} {a:Act} {w:World} {l:List Oper} (n:Nat) (hm:P.follows .mixedOrders=true) (hB:Region.lexTailB .any l.toArray n=true)
  (h:wpStill P l.toArray w.drew (fun a'=>wpList P l.toArray Q (l.drop n) a' w.drew) (l.take n) a):(Code.region id l.toArray true).wp P Q a w:=wp_region_still_tail n hm hB h
theorem uZ {p:Prop} (h:p):RowKit.Hid p:=Lib.hid h
theorem uX (w:World):aA w w:=aA.refl w
theorem uY {a b c:World} (h:aA a b) (k:aA b c):aA a c:=aA.trans h k
theorem uU {a w:World} (h:aA a w) (o:Obj):aA a (w.alloc o):=aA.alloc h o
theorem uJ {a w:World} (h:aA a w):aA a w.drew:=aA.drew h
theorem yZ {a w:World} (h:aA a w) {p:Addr} (hp:a.heap.size≤p.block) (u:Value):aA a (w.setCell p u):=aA.setCell h hp u
theorem uV (w:World) (p a:Addr) (v:Value) (h:p≠a):(w.setCell p v).cell? a=w.cell? a:=World.cell?_setCell_other w p a v h
theorem fD {α:Type} (f:α→List Value) (k:Nat) (hk:∀ x,(f x).length=k) (l:List α) (i j:Nat) (hi:i<l.length) (hj:j<k) :
  (l.flatMap f)[i*k+j]? = (f l[i])[j]?:=by
 induction l generalizing i with
 | nil=>simp at hi
 | cons x r ih =>
  rw[List.flatMap_cons]
  cases i with
  | zero =>
   rw[List.getElem?_append_left (by rw[hk];omega)];simp
  | succ i =>
   rw[List.getElem?_append_right (by rw[hk,Nat.add_mul];omega),hk];have e:(i+1)*k+j-k=i*k+j:=by rw[Nat.add_mul];omega
   rw[e,ih i (by simpa using hi)];rfl
theorem aL {α:Type} (f:α→List Value) (k:Nat) (hk:∀ x,(f x).length=k) (l:List α):(l.flatMap f).length=l.length*k:=by
 induction l with
 | nil=>simp
 | cons x r ih=>rw[List.flatMap_cons,List.length_append,hk,ih,List.length_cons,Nat.add_mul];omega
theorem Rd.open_ {α:Type} {w:World} {k:Nat} {v:Value} {f:α→List Value} {l:List α} (hk:∀ x,(f x).length=k) (h0:0<k) (h:Rd w k v (l.flatMap f)) :
  ∃(A:Option Addr) (c:Nat),v=.slice A l.length c∧l.length≤c∧c≤maxLen ∧
   (0<l.length→∃ b off,A=some ⟨b,off,none⟩∧b<w.heap.size∧∀ W,aA w W→∀ i (hi:i<l.length) j,j<k→W.cell? ⟨b,off+i*k+j,none⟩=(f l[i])[j]?):=by
 obtain⟨A,n,c,hv,hl,hn,hc,hr⟩:=h;rw[aL f k hk] at hl;obtain rfl:n=l.length:=(Nat.eq_of_mul_eq_mul_right h0 hl).symm;refine⟨A,c,hv,hn,hc,fun hp=>?_⟩;obtain⟨b,off,hA,hb,hcell⟩:=hr hp;refine⟨b,off,hA,hb,fun W hW i hi j hj=>?_⟩;have e:=fD f k hk l i j hi hj;have hlt:j<(f l[i]).length:=by rw[hk];exact hj
 rw[List.getElem?_eq_getElem hlt] at e ⊢;rw[hW.cell (p:=⟨b,off+i*k+j,none⟩) hb,show off+i*k+j=off+(i*k+j) by omega];exact hcell _ _ e
def dE {α:Type} (k:Nat) (f:α→List Value) (l:List α) (q:α→Bool) (ds:List Value) (i j:Nat):Prop :=
 ds.length=l.length*k∧i=((l.take j).filter q).length∧j≤l.length∧(∀ t,t<i*k→ds[t]? = (((l.take j).filter q).flatMap f)[t]?)∧(∀ t,j*k≤t→ds[t]? = (l.flatMap f)[t]?)
section
variable {α:Type} {k:Nat} {f:α→List Value} {l:List α} {q:α→Bool} {ds:List Value} {i j:Nat}
theorem dE.le (h:dE k f l q ds i j):i≤j:=by
 obtain⟨_,hi,hj,_⟩:=h;have:=List.length_filter_le q (l.take j);rw[List.length_take] at this;omega
theorem dE.start (hk:∀ x,(f x).length=k) (m:Nat) (hm:m<l.length) (hq:q l[m]=false) (hb:∀ t (ht:t<l.length),t<m→q l[t]=true):dE k f l q (l.flatMap f) m (m+1):=by
 have e:(l.take (m+1)).filter q=l.take m:=by
  rw[List.take_succ_eq_append_getElem hm,List.filter_append]
  have h1:(l.take m).filter q=l.take m:=List.filter_eq_self.2 (fun x hx=>by
   obtain⟨t,ht,rfl⟩:=List.getElem_of_mem hx;rw[List.getElem_take];rw[List.length_take] at ht
   exact hb t b_53 b_53)
  rw[h1];simp[hq]
 refine⟨aL f k hk l,by rw[e,List.length_take];omega,by omega,fun t ht=>?_,fun t _=>rfl⟩;rw[e]
 conv=>lhs;rw[← List.take_append_drop m l,List.flatMap_append]
 rw[List.getElem?_append_left];rw[aL f k hk,List.length_take,Nat.min_eq_left b_53];exact ht
theorem dE.at_ (h:dE k f l q ds i j) (hk:∀ x,(f x).length=k) (hj:j<l.length) (t:Nat) (ht:t<k):ds[j*k+t]? = (f l[j])[t]?:=by
 rw[h.2.2.2.2 (j*k+t) b_53,fD f k hk l j t hj ht]
theorem dE.skip (h:dE k f l q ds i j) (hj:j<l.length) (hq:q l[j]=false):dE k f l q ds i (j+1):=by
 obtain⟨h1,h2,h3,h4,h5⟩:=h
 have e:(l.take (j+1)).filter q=(l.take j).filter q:=by
  rw[List.take_succ_eq_append_getElem hj,List.filter_append];simp[hq]
 exact⟨h1,by rw[e];exact h2,by omega,by rw[e];exact h4,fun t ht=>h5 t (by rw[Nat.add_mul] at ht;omega)⟩
theorem dE.keep {ds':List Value} (h:dE k f l q ds i j) (hk:∀ x,(f x).length=k) (hj:j<l.length) (hq:q l[j]=true) (hl:ds'.length=ds.length)
  (ha:∀ t,t<i*k∨i*k+(f l[j]).length≤t→ds'[t]? = ds[t]?) (hb:∀ t,t<(f l[j]).length→i*k+t<ds.length→ds'[i*k+t]? = (f l[j])[t]?):dE k f l q ds' (i+1) (j+1):=by
 have hij:=h.le;obtain⟨h1,h2,h3,h4,h5⟩:=h
 have e:(l.take (j+1)).filter q=(l.take j).filter q++[l[j]]:=by
  rw[List.take_succ_eq_append_getElem hj,List.filter_append];simp[hq]
 have hmul:i*k≤j*k:=Nat.mul_le_mul_right k hij;have hmul2:(j+1)*k≤l.length*k:=Nat.mul_le_mul_right k b_53;rw[Nat.add_mul] at hmul2;have hfl:(((l.take j).filter q).flatMap f).length=i*k:=by rw[aL f k hk,← h2]
 refine⟨by rw[hl];exact h1,by rw[e,List.length_append,← h2];rfl,by omega,fun t ht=>?_,fun t ht=>?_⟩
 ·rw[e,List.flatMap_append]
  rw[Nat.add_mul] at ht;rcases Nat.lt_or_ge t (i*k) with hlt|hge
  ·rw[ha t (.inl hlt),h4 t hlt,List.getElem?_append_left b_53]
  ·have:=hb (t-i*k) (by rw[hk];omega) b_53
   rw[show i*k+(t-i*k)=t by omega] at this;rw[this,List.getElem?_append_right b_53,hfl];simp
 ·rw[Nat.add_mul] at ht
  rw[ha t (.inr (by rw[hk];omega))];exact h5 t b_53
theorem dE.done {ds':List Value} (h:dE k f l q ds i l.length) (hk:∀ x,(f x).length=k) (hd:∀ t,t<i*k→ds'[t]? = ds[t]?):ds'.take (i*k)=(l.filter q).flatMap f∧i=(l.filter q).length:=by
 obtain⟨_,h2,_,h4,_⟩:=h;rw[List.take_length] at h2 h4;refine⟨?_,h2⟩;apply List.ext_getElem?;intro t;rw[List.getElem?_take];split
 ·next ht=>rw[hd t ht,h4 t ht]
 ·next ht =>
  rw[List.getElem?_eq_none];rw[aL f k hk,← h2];omega
end
theorem wU {w:World} {base:Nat} {e:TypeId} {k g n cap:Nat} {ds:List Value} (h:w.ownsRow base e k (.slice (some ⟨g,0,none⟩) n cap) n ds) (i:Nat) (hi:i≤n):w.ownsRow base e k (.slice (some ⟨g,0,none⟩) i cap) i (ds.take (i*k)):=by
 have hm:i*k≤n*k:=Nat.mul_le_mul_right k hi;refine⟨by rw[List.length_take,h.1];omega,?_⟩;rcases h.2 with ⟨h1,_⟩|⟨g',c',cur,hv,hb,hh,hle,hmx,hsz,htk⟩
 ·cases h1
 ·injection hv with hA _ hC
  injection hA with hA;injection hA with hG;subst hG hC;exact .inr ⟨_,_,cur,rfl,hb,hh,by omega,hmx,hsz,by rw[← htk,List.take_take,Nat.min_eq_left hm]⟩
theorem aZ {w w':World} {base:Nat} {e:TypeId} {k:Nat} {v:Value} {n:Nat} {xs:List Value} (h:w.ownsRow base e k v n xs) (hg:aA w w'):w'.ownsRow base e k v n xs:=by
 refine⟨h.1,?_⟩;rcases h.2 with h1|⟨g,cap,cur,hv,hb,hh,r⟩
 ·exact .inl h1
 ·refine .inr ⟨g,cap,cur,hv,hb,?_,r⟩
  rw[hg.block g]
  ·exact hh
  ·rcases Nat.lt_or_ge g w.heap.size with hlt|hge
   ·exact hlt
   ·rw[Array.getElem?_eq_none hge] at hh;cases hh
theorem fH {w:World} {base:Nat} {e:TypeId} {size n:Nat} {v:Value} {xs:List Value} (h:w.ownsRow base e size v n xs) (h0:0<n):∃ g cap,v=.slice (some ⟨g,0,none⟩) n cap∧base≤g∧g<w.heap.size∧n≤cap:=by
 rcases h.2 with ⟨_,h1⟩|⟨g,cap,cur,hv,hb,hh,hle,_⟩
 ·omega
 ·refine⟨g,cap,hv,hb,?_,hle⟩
  rcases Nat.lt_or_ge g w.heap.size with hlt|hge
  ·exact hlt
  ·rw[Array.getElem?_eq_none hge] at hh;cases hh
theorem sV {w:World} {base:Nat} {e:TypeId} {size n g cap:Nat} {xs:List Value} (h:w.ownsRow base e size (.slice (some ⟨g,0,none⟩) n cap) n xs):cap≤maxLen:=by
 rcases h.2 with ⟨h1,_⟩|⟨g',c',cur,hv,_,_,_,hm,_⟩
 ·cases h1
 ·injection hv with _ _ hc
  subst hc;exact hm
theorem Rd.of_own {w:World} {base:Nat} {e:TypeId} {k:Nat} {v:Value} {n:Nat} {xs:List Value} (h:w.ownsRow base e k v n xs):Rd w k v xs:=by
 have hl:=h.1;rcases h.2 with ⟨hv,hn⟩|⟨g,cap,cur,hv,_,hh,hle,hmx,_,htk⟩
 ·subst hv hn
  exact⟨none,0,0,rfl,hl,Nat.le_refl _,Nat.zero_le _,fun h=>absurd h (Nat.lt_irrefl _)⟩
 ·subst hv
  refine⟨_,n,cap,rfl,hl,hle,hmx,fun _=>⟨g,0,rfl,?_,fun j u hu=>?_⟩⟩
  ·rcases Nat.lt_or_ge g w.heap.size with hlt|hge
   ·exact hlt
   ·rw[Array.getElem?_eq_none hge] at hh;cases hh
  ·rw[Nat.zero_add,cell_of_row w g j cur e (0,0) hh,← hu,← htk,List.getElem?_take]
   have:j<n*k:=by rw[← hl];exact(List.getElem?_eq_some_iff.1 hu).1
   rw[if_pos this];simp
structure Val where
 unit:Int
 elem:Int
 lang:ByteArray
 text:ByteArray
deriving DecidableEq,Inhabited
def Val.cells (x:Val):List Value:=[.int .i64 x.unit,.int .i64 x.elem,.string x.lang,.string x.text]
def Val.agg (x:Val):Value:=.agg #[.int .i64 x.unit,.int .i64 x.elem,.string x.lang,.string x.text]
def SlV (w:World) (v:Value) (l:List Val):Prop:=Rd w 4 v (l.flatMap Val.cells)
theorem SlV.mono {w w':World} {v:Value} {l:List Val} (h:SlV w v l) (hg:aA w w'):SlV w' v l:=Rd.mono h hg
theorem SlV.nil (w:World):SlV w (.slice none 0 0) []:=Rd.nil w _
theorem SlV.open_ {w : World} {v : Value} {l : List Val} (h : SlV w v l) : ∃ (A : Option Addr) (c : Nat), v = .slice A l.length c ∧ l.length ≤ c ∧ c ≤ maxLen ∧
      (0 < l.length → ∃ b off, A = some ⟨b, off, none⟩ ∧ b < w.heap.size ∧ ∀ W, aA w W → ∀ i (hi : i < l.length), W.cell? ⟨b, off + i * 4, none⟩ = some (.int .i64 l[i].unit) ∧ W.cell? ⟨b, off + i * 4 + 1, none⟩ = some (.int .i64 l[i].elem) ∧ W.cell? ⟨b, off + i * 4 + 2, none⟩ = some (.string l[i].lang) ∧ W.cell? ⟨b, off + i * 4 + 3, none⟩ = some (.string l[i].text)) := by
 obtain⟨A,c,hv,hn,hm,hr⟩:=Rd.open_ (k:=4) (f:=Val.cells) (fun _=>rfl) b_53 h;refine⟨A,c,hv,hn,hm,fun h0=>?_⟩;obtain⟨b,off,hA,hb,hc⟩:=hr h0;exact⟨b,off,hA,hb,fun W hW i hi=>⟨by simpa [Val.cells] using hc W hW i hi 0 b_53,by simpa [Val.cells] using hc W hW i hi 1 b_53,by simpa [Val.cells] using hc W hW i hi 2 b_53,by simpa [Val.cells] using hc W hW i hi 3 b_53⟩⟩
structure aJc where
 word:ByteArray
 inh:Bool
 lev:Int
deriving DecidableEq,Inhabited
def aJc.cells (x:aJc):List Value:=[.string x.word,.bool x.inh,.int .i64 x.lev]
def aJc.agg (x:aJc):Value:=.agg #[.string x.word,.bool x.inh,.int .i64 x.lev]
def SlK (w:World) (v:Value) (l:List aJc):Prop:=Rd w 3 v (l.flatMap aJc.cells)
theorem SlK.mono {w w':World} {v:Value} {l:List aJc} (h:SlK w v l) (hg:aA w w'):SlK w' v l:=Rd.mono h hg
theorem SlK.nil (w:World):SlK w (.slice none 0 0) []:=Rd.nil w _
theorem SlK.open_ {w : World} {v : Value} {l : List aJc} (h : SlK w v l) : ∃ (A : Option Addr) (c : Nat), v = .slice A l.length c ∧ l.length ≤ c ∧ c ≤ maxLen ∧
      (0 < l.length → ∃ b off, A = some ⟨b, off, none⟩ ∧ b < w.heap.size ∧ ∀ W, aA w W → ∀ i (hi : i < l.length), W.cell? ⟨b, off + i * 3, none⟩ = some (.string l[i].word) ∧ W.cell? ⟨b, off + i * 3 + 1, none⟩ = some (.bool l[i].inh) ∧ W.cell? ⟨b, off + i * 3 + 2, none⟩ = some (.int .i64 l[i].lev)) := by
 obtain⟨A,c,hv,hn,hm,hr⟩:=Rd.open_ (k:=3) (f:=aJc.cells) (fun _=>rfl) b_53 h;refine⟨A,c,hv,hn,hm,fun h0=>?_⟩;obtain⟨b,off,hA,hb,hc⟩:=hr h0;exact⟨b,off,hA,hb,fun W hW i hi=>⟨by simpa [aJc.cells] using hc W hW i hi 0 b_53,by simpa [aJc.cells] using hc W hW i hi 1 b_53,by simpa [aJc.cells] using hc W hW i hi 2 b_53⟩⟩
def bCo (x:ByteArray):List Value:=[.string x]
def SlS (w:World) (v:Value) (l:List ByteArray):Prop:=Rd w 1 v (l.flatMap bCo)
theorem SlS.mono {w w':World} {v:Value} {l:List ByteArray} (h:SlS w v l) (hg:aA w w'):SlS w' v l:=Rd.mono h hg
theorem SlS.nil (w:World):SlS w (.slice none 0 0) []:=Rd.nil w _
theorem SlS.open_ {w : World} {v : Value} {l : List ByteArray} (h : SlS w v l) : ∃ (A : Option Addr) (c : Nat), v = .slice A l.length c ∧ l.length ≤ c ∧ c ≤ maxLen ∧
      (0 < l.length → ∃ b off, A = some ⟨b, off, none⟩ ∧ b < w.heap.size ∧ ∀ W, aA w W → ∀ i (hi : i < l.length), W.cell? ⟨b, off + i, none⟩ = some (.string l[i])) := by
 obtain⟨A,c,hv,hn,hm,hr⟩:=Rd.open_ (k:=1) (f:=bCo) (fun _=>rfl) b_53 h;refine⟨A,c,hv,hn,hm,fun h0=>?_⟩;obtain⟨b,off,hA,hb,hc⟩:=hr h0;exact⟨b,off,hA,hb,fun W hW i hi=>by simpa [bCo] using hc W hW i hi 0 b_53⟩
def eE (x:Int):List Value:=[.int .i64 x]
def SlI (w:World) (v:Value) (l:List Int):Prop:=Rd w 1 v (l.flatMap eE)
theorem SlI.mono {w w':World} {v:Value} {l:List Int} (h:SlI w v l) (hg:aA w w'):SlI w' v l:=Rd.mono h hg
theorem SlI.nil (w:World):SlI w (.slice none 0 0) []:=Rd.nil w _
theorem SlI.open_ {w : World} {v : Value} {l : List Int} (h : SlI w v l) : ∃ (A : Option Addr) (c : Nat), v = .slice A l.length c ∧ l.length ≤ c ∧ c ≤ maxLen ∧
      (0 < l.length → ∃ b off, A = some ⟨b, off, none⟩ ∧ b < w.heap.size ∧ ∀ W, aA w W → ∀ i (hi : i < l.length), W.cell? ⟨b, off + i, none⟩ = some (.int .i64 l[i])) := by
 obtain⟨A,c,hv,hn,hm,hr⟩:=Rd.open_ (k:=1) (f:=eE) (fun _=>rfl) b_53 h;refine⟨A,c,hv,hn,hm,fun h0=>?_⟩;obtain⟨b,off,hA,hb,hc⟩:=hr h0;exact⟨b,off,hA,hb,fun W hW i hi=>by simpa [eE] using hc W hW i hi 0 b_53⟩
structure Nam where
 text:ByteArray
 fr:Int
 un:Int
deriving DecidableEq,Inhabited
def Nam.cells (x:Nam):List Value:=[.string x.text,.int .i64 x.fr,.int .i64 x.un]
def Nam.agg (x:Nam):Value:=.agg #[.string x.text,.int .i64 x.fr,.int .i64 x.un]
def SlN (w:World) (v:Value) (l:List Nam):Prop:=Rd w 3 v (l.flatMap Nam.cells)
theorem SlN.mono {w w':World} {v:Value} {l:List Nam} (h:SlN w v l) (hg:aA w w'):SlN w' v l:=Rd.mono h hg
theorem SlN.nil (w:World):SlN w (.slice none 0 0) []:=Rd.nil w _
theorem SlN.open_ {w : World} {v : Value} {l : List Nam} (h : SlN w v l) : ∃ (A : Option Addr) (c : Nat), v = .slice A l.length c ∧ l.length ≤ c ∧ c ≤ maxLen ∧
      (0 < l.length → ∃ b off, A = some ⟨b, off, none⟩ ∧ b < w.heap.size ∧ ∀ W, aA w W → ∀ i (hi : i < l.length), W.cell? ⟨b, off + i * 3, none⟩ = some (.string l[i].text) ∧ W.cell? ⟨b, off + i * 3 + 1, none⟩ = some (.int .i64 l[i].fr) ∧ W.cell? ⟨b, off + i * 3 + 2, none⟩ = some (.int .i64 l[i].un)) := by
 obtain⟨A,c,hv,hn,hm,hr⟩:=Rd.open_ (k:=3) (f:=Nam.cells) (fun _=>rfl) b_53 h;refine⟨A,c,hv,hn,hm,fun h0=>?_⟩;obtain⟨b,off,hA,hb,hc⟩:=hr h0;exact⟨b,off,hA,hb,fun W hW i hi=>⟨by simpa [Nam.cells] using hc W hW i hi 0 b_53,by simpa [Nam.cells] using hc W hW i hi 1 b_53,by simpa [Nam.cells] using hc W hW i hi 2 b_53⟩⟩
structure Rel where
 unit:Int
 role:Int
 auth:Int
 fr:Int
 un:Int
deriving DecidableEq,Inhabited
def Rel.cells (x:Rel):List Value:=[.int .i64 x.unit,.int .i64 x.role,.int .i64 x.auth,.int .i64 x.fr,.int .i64 x.un]
def Rel.agg (x:Rel):Value:=.agg #[.int .i64 x.unit,.int .i64 x.role,.int .i64 x.auth,.int .i64 x.fr,.int .i64 x.un]
def SlR (w:World) (v:Value) (l:List Rel):Prop:=Rd w 5 v (l.flatMap Rel.cells)
theorem SlR.mono {w w':World} {v:Value} {l:List Rel} (h:SlR w v l) (hg:aA w w'):SlR w' v l:=Rd.mono h hg
theorem SlR.nil (w:World):SlR w (.slice none 0 0) []:=Rd.nil w _
theorem SlR.open_ {w : World} {v : Value} {l : List Rel} (h : SlR w v l) : ∃ (A : Option Addr) (c : Nat), v = .slice A l.length c ∧ l.length ≤ c ∧ c ≤ maxLen ∧
      (0 < l.length → ∃ b off, A = some ⟨b, off, none⟩ ∧ b < w.heap.size ∧ ∀ W, aA w W → ∀ i (hi : i < l.length), W.cell? ⟨b, off + i * 5, none⟩ = some (.int .i64 l[i].unit) ∧ W.cell? ⟨b, off + i * 5 + 1, none⟩ = some (.int .i64 l[i].role) ∧ W.cell? ⟨b, off + i * 5 + 2, none⟩ = some (.int .i64 l[i].auth) ∧ W.cell? ⟨b, off + i * 5 + 3, none⟩ = some (.int .i64 l[i].fr) ∧ W.cell? ⟨b, off + i * 5 + 4, none⟩ = some (.int .i64 l[i].un)) := by
 obtain⟨A,c,hv,hn,hm,hr⟩:=Rd.open_ (k:=5) (f:=Rel.cells) (fun _=>rfl) b_53 h;refine⟨A,c,hv,hn,hm,fun h0=>?_⟩;obtain⟨b,off,hA,hb,hc⟩:=hr h0;exact⟨b,off,hA,hb,fun W hW i hi=>⟨by simpa [Rel.cells] using hc W hW i hi 0 b_53,by simpa [Rel.cells] using hc W hW i hi 1 b_53,by simpa [Rel.cells] using hc W hW i hi 2 b_53,by simpa [Rel.cells] using hc W hW i hi 3 b_53,by simpa [Rel.cells] using hc W hW i hi 4 b_53⟩⟩
structure AuC where
 id:Int
 kind:Int
 fr:Int
 un:Int
 nv:Value
 xv:Value
deriving Inhabited
def AuC.cells (x:AuC):List Value:=[.int .i64 x.id,.int .i64 x.kind,.int .i64 x.fr,.int .i64 x.un,x.nv,x.xv]
def AuC.agg (x:AuC):Value:=.agg #[.int .i64 x.id,.int .i64 x.kind,.int .i64 x.fr,.int .i64 x.un,x.nv,x.xv]
def SlA (w:World) (v:Value) (l:List AuC):Prop:=Rd w 6 v (l.flatMap AuC.cells)
theorem SlA.mono {w w':World} {v:Value} {l:List AuC} (h:SlA w v l) (hg:aA w w'):SlA w' v l:=Rd.mono h hg
theorem SlA.nil (w:World):SlA w (.slice none 0 0) []:=Rd.nil w _
theorem SlA.open_ {w : World} {v : Value} {l : List AuC} (h : SlA w v l) : ∃ (A : Option Addr) (c : Nat), v = .slice A l.length c ∧ l.length ≤ c ∧ c ≤ maxLen ∧
      (0 < l.length → ∃ b off, A = some ⟨b, off, none⟩ ∧ b < w.heap.size ∧ ∀ W, aA w W → ∀ i (hi : i < l.length), W.cell? ⟨b, off + i * 6, none⟩ = some (.int .i64 l[i].id) ∧ W.cell? ⟨b, off + i * 6 + 1, none⟩ = some (.int .i64 l[i].kind) ∧ W.cell? ⟨b, off + i * 6 + 2, none⟩ = some (.int .i64 l[i].fr) ∧ W.cell? ⟨b, off + i * 6 + 3, none⟩ = some (.int .i64 l[i].un) ∧ W.cell? ⟨b, off + i * 6 + 4, none⟩ = some (l[i].nv) ∧ W.cell? ⟨b, off + i * 6 + 5, none⟩ = some (l[i].xv)) := by
 obtain⟨A,c,hv,hn,hm,hr⟩:=Rd.open_ (k:=6) (f:=AuC.cells) (fun _=>rfl) b_53 h;refine⟨A,c,hv,hn,hm,fun h0=>?_⟩;obtain⟨b,off,hA,hb,hc⟩:=hr h0;exact⟨b,off,hA,hb,fun W hW i hi=>⟨by simpa [AuC.cells] using hc W hW i hi 0 b_53,by simpa [AuC.cells] using hc W hW i hi 1 b_53,by simpa [AuC.cells] using hc W hW i hi 2 b_53,by simpa [AuC.cells] using hc W hW i hi 3 b_53,by simpa [AuC.cells] using hc W hW i hi 4 b_53,by simpa [AuC.cells] using hc W hW i hi 5 b_53⟩⟩
structure BrC where
 id:Int
 parent:Int
 level:Int
 title:ByteArray
 mark:ByteArray
 kv:Value
deriving Inhabited
def BrC.cells (x:BrC):List Value:=[.int .i64 x.id,.int .i64 x.parent,.int .i64 x.level,.string x.title,.string x.mark,x.kv]
def BrC.agg (x:BrC):Value:=.agg #[.int .i64 x.id,.int .i64 x.parent,.int .i64 x.level,.string x.title,.string x.mark,x.kv]
def SlB (w:World) (v:Value) (l:List BrC):Prop:=Rd w 6 v (l.flatMap BrC.cells)
theorem SlB.mono {w w':World} {v:Value} {l:List BrC} (h:SlB w v l) (hg:aA w w'):SlB w' v l:=Rd.mono h hg
theorem SlB.nil (w:World):SlB w (.slice none 0 0) []:=Rd.nil w _
theorem SlB.open_ {w : World} {v : Value} {l : List BrC} (h : SlB w v l) : ∃ (A : Option Addr) (c : Nat), v = .slice A l.length c ∧ l.length ≤ c ∧ c ≤ maxLen ∧
      (0 < l.length → ∃ b off, A = some ⟨b, off, none⟩ ∧ b < w.heap.size ∧ ∀ W, aA w W → ∀ i (hi : i < l.length), W.cell? ⟨b, off + i * 6, none⟩ = some (.int .i64 l[i].id) ∧ W.cell? ⟨b, off + i * 6 + 1, none⟩ = some (.int .i64 l[i].parent) ∧ W.cell? ⟨b, off + i * 6 + 2, none⟩ = some (.int .i64 l[i].level) ∧ W.cell? ⟨b, off + i * 6 + 3, none⟩ = some (.string l[i].title) ∧ W.cell? ⟨b, off + i * 6 + 4, none⟩ = some (.string l[i].mark) ∧ W.cell? ⟨b, off + i * 6 + 5, none⟩ = some (l[i].kv)) := by
 obtain⟨A,c,hv,hn,hm,hr⟩:=Rd.open_ (k:=6) (f:=BrC.cells) (fun _=>rfl) b_53 h;refine⟨A,c,hv,hn,hm,fun h0=>?_⟩;obtain⟨b,off,hA,hb,hc⟩:=hr h0;exact⟨b,off,hA,hb,fun W hW i hi=>⟨by simpa [BrC.cells] using hc W hW i hi 0 b_53,by simpa [BrC.cells] using hc W hW i hi 1 b_53,by simpa [BrC.cells] using hc W hW i hi 2 b_53,by simpa [BrC.cells] using hc W hW i hi 3 b_53,by simpa [BrC.cells] using hc W hW i hi 4 b_53,by simpa [BrC.cells] using hc W hW i hi 5 b_53⟩⟩
structure tS where
 id:Int
 kind:Int
 fr:Int
 un:Int
 names:List Nam
 next:List Int
deriving DecidableEq,Inhabited
structure Br where
 id:Int
 parent:Int
 level:Int
 title:ByteArray
 mark:ByteArray
 kids:List Int
deriving DecidableEq,Inhabited
structure Tr where
 roots:List Int
 brs:List Br
deriving DecidableEq,Inhabited
def tS.c (a:tS) (nv xv:Value):AuC:=⟨a.id,a.kind,a.fr,a.un,nv,xv⟩
def bBu (w:World) (c:AuC) (a:tS):Prop:=c=a.c c.nv c.xv∧SlN w c.nv a.names∧SlI w c.xv a.next
def aWt (w:World) (v:Value) (l:List tS):Prop:=∃ cs:List AuC,SlA w v cs∧cs.length=l.length∧∀ i (h:i<cs.length) (h':i<l.length),bBu w cs[i] l[i]
def Br.c (a:Br) (kv:Value):BrC:=⟨a.id,a.parent,a.level,a.title,a.mark,kv⟩
def vW (w:World) (c:BrC) (a:Br):Prop:=c=a.c c.kv∧SlI w c.kv a.kids
def bQ (w:World) (v:Value) (l:List Br):Prop:=∃ cs:List BrC,SlB w v cs∧cs.length=l.length∧∀ i (h:i<cs.length) (h':i<l.length),vW w cs[i] l[i]
def dF (w:World) (rv bv:Value) (t:Tr):Prop:=SlI w rv t.roots∧bQ w bv t.brs
theorem bBu.mono {w w':World} {c:AuC} {a:tS} (h:bBu w c a) (hg:aA w w'):bBu w' c a:=⟨h.1,h.2.1.mono hg,h.2.2.mono hg⟩
theorem aWt.mono {w w':World} {v:Value} {l:List tS} (h:aWt w v l) (hg:aA w w'):aWt w' v l:=by
 obtain⟨cs,h1,h2,h3⟩:=h;exact⟨cs,h1.mono hg,h2,fun i h h'=>(h3 i h h').mono hg⟩
theorem aWt.nil (w:World):aWt w (.slice none 0 0) []:=⟨[],SlA.nil w,rfl,fun _ h=>absurd h (Nat.not_lt_zero _)⟩
theorem vW.mono {w w':World} {c:BrC} {a:Br} (h:vW w c a) (hg:aA w w'):vW w' c a:=⟨h.1,h.2.mono hg⟩
theorem bQ.mono {w w':World} {v:Value} {l:List Br} (h:bQ w v l) (hg:aA w w'):bQ w' v l:=by
 obtain⟨cs,h1,h2,h3⟩:=h;exact⟨cs,h1.mono hg,h2,fun i h h'=>(h3 i h h').mono hg⟩
theorem bQ.nil (w:World):bQ w (.slice none 0 0) []:=⟨[],SlB.nil w,rfl,fun _ h=>absurd h (Nat.not_lt_zero _)⟩
theorem dF.mono {w w':World} {rv bv:Value} {t:Tr} (h:dF w rv bv t) (hg:aA w w'):dF w' rv bv t:=⟨h.1.mono hg,h.2.mono hg⟩
theorem aWt.open_ {w:World} {v:Value} {l:List tS} (h:aWt w v l):∃(A:Option Addr) (c:Nat),v=.slice A l.length c∧l.length≤c∧c≤maxLen ∧
  (0<l.length→∃ b off,A=some ⟨b,off,none⟩∧b<w.heap.size∧∀ i (hi:i<l.length),∃ nv xv,SlN w nv l[i].names∧SlI w xv l[i].next ∧
   ∀ W,aA w W→W.cell? ⟨b,off+i*6,none⟩=some (.int .i64 l[i].id)∧W.cell? ⟨b,off+i*6+1,none⟩=some (.int .i64 l[i].kind)∧W.cell? ⟨b,off+i*6+2,none⟩=some (.int .i64 l[i].fr)∧W.cell? ⟨b,off+i*6+3,none⟩=some (.int .i64 l[i].un)∧W.cell? ⟨b,off+i*6+4,none⟩=some nv∧W.cell? ⟨b,off+i*6+5,none⟩=some xv):=by
 obtain⟨cs,h1,h2,h3⟩:=h;obtain⟨A,c,hv,hn,hm,hr⟩:=h1.open_;refine⟨A,c,by rw[← h2];exact hv,by omega,hm,fun h0=>?_⟩;obtain⟨b,off,hA,hb,hc⟩:=hr b_53;refine⟨b,off,hA,hb,fun i hi=>?_⟩;obtain⟨k1,k2,k3⟩:=h3 i b_53 hi;refine⟨_,_,k2,k3,fun W hW=>?_⟩;obtain⟨e0,e1,e2,e3,e4,e5⟩:=hc W hW i b_53;have q0:=congrArg AuC.id k1;have q1:=congrArg AuC.kind k1;have q2:=congrArg AuC.fr k1;have q3:=congrArg AuC.un k1;simp only [tS.c] at q0 q1 q2 q3;rw[q0] at e0;rw[q1] at e1;rw[q2] at e2;rw[q3] at e3;exact⟨e0,e1,e2,e3,e4,e5⟩
theorem bQ.open_ {w:World} {v:Value} {l:List Br} (h:bQ w v l):∃(A:Option Addr) (c:Nat),v=.slice A l.length c∧l.length≤c∧c≤maxLen ∧
  (0<l.length→∃ b off,A=some ⟨b,off,none⟩∧b<w.heap.size∧∀ i (hi:i<l.length),∃ kv,SlI w kv l[i].kids ∧
   ∀ W,aA w W→W.cell? ⟨b,off+i*6,none⟩=some (.int .i64 l[i].id)∧W.cell? ⟨b,off+i*6+1,none⟩=some (.int .i64 l[i].parent)∧W.cell? ⟨b,off+i*6+2,none⟩=some (.int .i64 l[i].level)∧W.cell? ⟨b,off+i*6+3,none⟩=some (.string l[i].title)∧W.cell? ⟨b,off+i*6+4,none⟩=some (.string l[i].mark)∧W.cell? ⟨b,off+i*6+5,none⟩=some kv):=by
 obtain⟨cs,h1,h2,h3⟩:=h;obtain⟨A,c,hv,hn,hm,hr⟩:=h1.open_;refine⟨A,c,by rw[← h2];exact hv,by omega,hm,fun h0=>?_⟩;obtain⟨b,off,hA,hb,hc⟩:=hr b_53;refine⟨b,off,hA,hb,fun i hi=>?_⟩;obtain⟨k1,k2⟩:=h3 i b_53 hi;refine⟨_,k2,fun W hW=>?_⟩;obtain⟨e0,e1,e2,e3,e4,e5⟩:=hc W hW i b_53;have q0:=congrArg BrC.id k1;have q1:=congrArg BrC.parent k1;have q2:=congrArg BrC.level k1;have q3:=congrArg BrC.title k1;have q4:=congrArg BrC.mark k1;simp only [Br.c] at q0 q1 q2 q3 q4;rw[q0] at e0;rw[q1] at e1;rw[q2] at e2;rw[q3] at e3;rw[q4] at e4;exact⟨e0,e1,e2,e3,e4,e5⟩
theorem tD {α β:Type} {p:α→Bool} {q:β→Bool}:∀(l:List α) (m:List β) (j:Nat),l.length=m.length→(∀ i (h:i<l.length) (h':i<m.length),p l[i]=q m[i])→gJ p l j=gJ q m j
 | [],[],_,_,_=>rfl
 | [],_::_,_,h,_=>by simp at h
 | _::_,[],_,h,_=>by simp at h
 | x::l,y::m,j,h,hr=>by
  have h0:=hr 0 b_54 b_54;simp only [List.getElem_cons_zero] at h0;rw[gJ,gJ,h0,tD l m (j+1) b_49 (fun i h1 h2=>hr (i+1) (Nat.succ_lt_succ h1) (Nat.succ_lt_succ h2))]
theorem xQ {α β:Type} {p:α→Bool} {q:β→Bool} (l:List α) (m:List β) (h:l.length=m.length) (hr:∀ i (h:i<l.length) (h':i<m.length),p l[i]=q m[i]):lL p l=lL q m:=tD l m 0 h hr
theorem bAl (s:ByteArray) (pos:Nat) (h:(s.get! pos).toNat<128):Utf8.decode s pos=((s.get! pos).toNat,1):=by
 unfold Utf8.decode;simp only [Nat.add_zero];rw[if_pos h]
theorem bAm (s:ByteArray) (pos:Nat) (h:128≤(s.get! pos).toNat):128≤(Utf8.decode s pos).1:=by
 unfold Utf8.decode;simp only [Nat.add_zero];rw[if_neg b_53];have he:128≤Utf8.runeError:=by decide
 split
 ·split
  ·rename_i h2;exact h2
  ·exact he
 ·split
  ·split
   ·rename_i h2
    simp only [Bool.and_eq_true,decide_eq_true_eq] at h2;show 128≤_;omega
   ·exact he
  ·split
   ·split
    ·rename_i h2
     simp only [Bool.and_eq_true,decide_eq_true_eq] at h2;show 128≤_;omega
    ·exact he
   ·exact he
def eF (lo hi:Nat) (r:Nat):Bool:=decide (r<lo) || decide (hi<r)
theorem mE (lo hi:Nat) (hhi:hi<128) (s:ByteArray):∀(f pos:Nat),s.size≤pos+f→(0≤Lib.idxFuncFrom (eF lo hi) true s f pos↔∃ j,pos≤j∧j<s.size∧eF lo hi (s.get! j).toNat=true)
 | 0,pos,h=>by
  constructor
  ·intro h2
   simp[Lib.idxFuncFrom] at h2
  ·rintro ⟨j,h1,h2,_⟩
   omega
 | f+1,pos,h=>by
  rw[Lib.idxFuncFrom];by_cases hp:pos<s.size
  ·rw[if_pos hp]
   by_cases hb:(s.get! pos).toNat<128
   ·rw[bAl s pos hb]
    by_cases hs:eF lo hi (s.get! pos).toNat=true
    ·rw[if_pos hs]
     exact⟨fun _=>⟨pos,Nat.le_refl _,hp,hs⟩,fun _=>by omega⟩
    ·rw[if_neg hs,mE lo hi hhi s f (pos+1) b_53]
     constructor
     ·rintro ⟨j,h1,h2,h3⟩
      exact⟨j,by omega,h2,h3⟩
     ·rintro ⟨j,h1,h2,h3⟩
      by_cases e:j=pos
      ·subst e
       exact absurd h3 hs
      ·exact⟨j,by omega,h2,h3⟩
   ·have hd:=bAm s pos b_53
    have hs:eF lo hi (Utf8.decode s pos).1=true:=by
     simp only [eF,Bool.or_eq_true,decide_eq_true_eq];omega
    rw[if_pos hs];refine⟨fun _=>⟨pos,Nat.le_refl _,hp,?_⟩,fun _=>by omega⟩;simp only [eF,Bool.or_eq_true,decide_eq_true_eq];omega
  ·rw[if_neg hp]
   constructor
   ·intro h2
    simp at h2
   ·rintro ⟨j,h1,h2,_⟩
    omega
def iB (lo hi:Nat) (l:List UInt8):Bool:=l.all fun b=>decide (lo≤b.toNat) && decide (b.toNat≤hi)
theorem kY (lo hi:Nat) (hhi:hi<128) (s:ByteArray):decide (0≤Lib.idxFunc (eF lo hi) true s) = !iB lo hi s.data.toList:=by
 rw[Bool.eq_iff_iff,decide_eq_true_eq,Lib.idxFunc,mE lo hi hhi s s.size 0 b_53];simp only [Bool.not_eq_true',iB,List.all_eq_false]
 have hg:∀ j (h:j<s.size),s.get! j=s.data.toList[j]'b_49:=fun j h=>by
  have h':j<s.data.size:=h;rw[Array.getElem_toList];show s.data[j]! = _;rw[getElem!_pos s.data j h']
 constructor
 ·rintro ⟨j,_,h2,h3⟩
  refine⟨_,List.getElem_mem (by simpa using h2),?_⟩;rw[← hg j h2];simp only [eF,Bool.or_eq_true,decide_eq_true_eq] at h3;simp only [Bool.and_eq_true,decide_eq_true_eq];omega
 ·rintro ⟨b,hb,h3⟩
  obtain⟨j,hj,rfl⟩:=List.mem_iff_getElem.1 hb;have hj':j<s.size:=by simpa using hj
  refine⟨j,by omega,hj',?_⟩;rw[hg j hj'];simp only [Bool.and_eq_true,decide_eq_true_eq] at h3;simp only [eF,Bool.or_eq_true,decide_eq_true_eq];omega
def fB (l:List UInt8):Bool:=decide (1≤l.length∧l.length≤64) && (!(l.head? == some 32) && (!(l.getLast? == some 32) && (!Lib.contains l [32,32] && iB 32 126 l)))
def jP (l:List UInt8):Bool:=decide (1≤l.length∧l.length≤64) && iB 33 126 l
def aN (n lo hi:Int):Bool:=decide (lo≤n) && decide (n≤hi)
def aSz (fr un:Int):Bool:=decide (0≤fr) && (decide (fr<un) && decide (un≤1048576))
theorem vX {n lo hi:Int}:aN n lo hi=true↔lo≤n∧n≤hi:=by simp[aN]
def aWy (a:tS) (i:Nat) (h:i<a.names.length):Prop :=
 fB a.names[i].text.data.toList=true∧aSz a.names[i].fr a.names[i].un=true∧a.fr≤a.names[i].fr∧a.names[i].un≤a.un∧(0<i→(a.names[i-1]'b_53).un≤a.names[i].fr)
def aEf (a:tS):Prop:=(1≤a.names.length∧a.names.length≤16)∧∀ i (h:i<a.names.length),aWy a i h
def aOq (l:List Int):Prop:=l.length≤16∧∀ k (h:k<l.length),1≤k→(l[k-1]'b_53)<l[k]
def aEl (l:List tS) (i:Nat) (h:i<l.length):Prop :=
 aN l[i].id 1 1073741824=true∧aN l[i].kind 1 3=true∧aSz l[i].fr l[i].un=true∧(0<i→(l[i-1]'b_53).id<l[i].id)∧aEf l[i]∧aOq l[i].next
def aGd (l:List tS) (id:Int):Option tS:=l.find? fun a=>a.id == id
def aOl (l:List tS) (a:tS):Prop:=∀ n∈a.next,∃ b,aGd l n=some b∧b.kind=a.kind∧b.fr=a.un
def aBm (l:List tS):Prop:=l.length≤64∧(∀ i (h:i<l.length),aEl l i h)∧∀ i (h:i<l.length),aOl l l[i]
instance (a:tS) (i:Nat) (h:i<a.names.length):Decidable (aWy a i h):=by unfold aWy;infer_instance
instance (a:tS):Decidable (aEf a):=by unfold aEf;infer_instance
instance (l:List Int):Decidable (aOq l):=by unfold aOq;infer_instance
instance (l:List tS) (i:Nat) (h:i<l.length):Decidable (aEl l i h):=by unfold aEl;infer_instance
instance (l:List tS) (n k u:Int):Decidable (∃ b,aGd l n=some b∧b.kind=k∧b.fr=u) :=
 decidable_of_iff (((aGd l n).map fun b=>decide (b.kind=k∧b.fr=u))=some true) (by cases aGd l n<;>simp)
instance (l:List tS) (a:tS):Decidable (aOl l a):=by unfold aOl;infer_instance
instance (l:List tS):Decidable (aBm l):=by unfold aBm;infer_instance
def aOt (n:Int):List Int→List Int
 | []=>[n]
 | x::r=>if x<n then x::aOt n r else if x=n then x::r else n::x::r
end Go.Proofs.YtdochkemaiokfaaGreat





namespace Go.Proofs
open Go.Shelf
def Tryz.lays106_ren:Go.Shelf.Ren:=⟨fun|106=>56|213=>76|265=>117|n=>n,fun|9=>9|3=>3|n=>n,fun|n=>n⟩
theorem Tryz.lays106:Go.Proofs.Lays.n106 Tryz.prog Tryz.lays106_ren:={
 mixed:=by kernel_rfl
 f106:=Tryz.func56.trans (congrArg some (by kernel_rfl))
 f213:=Tryz.func76.trans (congrArg some (by kernel_rfl))
 f265:=Tryz.func117.trans (congrArg some (by kernel_rfl))
 t3:=Tryz.underlying3
 a3:=Tryz.isAgg3
 z3:=Tryz.sizeOf3
 v3:=Tryz.zeroValue3
 t9:=Tryz.underlying9
 a9:=Tryz.isAgg9
 z9:=Tryz.sizeOf9
 v9:=Tryz.zeroValue9 }
open Go.RowKit in
theorem Tryz.strings_Compare (a b:ByteArray) (w:World) :
  Calls Tryz.prog 56 #[.string a,.string b] w fun e w'=>e=.returned (.int .i64 (Lib.compareBytes a.data.toList b.data.toList))∧w'=w:=Any.strings_Compare Tryz.lays106 a b w
def Tryz.lays122_ren:Go.Shelf.Ren:=⟨fun|122=>73|215=>106|n=>n,fun|3=>3|4=>4|n=>n,fun|n=>n⟩
theorem Tryz.lays122:Go.Proofs.Lays.n122 Tryz.prog Tryz.lays122_ren:={
 mixed:=by kernel_rfl
 f122:=Tryz.func73.trans (congrArg some (by kernel_rfl))
 f215:=Tryz.func106.trans (congrArg some (by kernel_rfl))
 t3:=Tryz.underlying3
 a3:=Tryz.isAgg3
 z3:=Tryz.sizeOf3
 v3:=Tryz.zeroValue3
 t4:=Tryz.underlying4
 a4:=Tryz.isAgg4
 z4:=Tryz.sizeOf4
 v4:=Tryz.zeroValue4 }
open Go.RowKit in
theorem Tryz.cmp_Compare_int (x y:Int) (w:World) :
  Calls Tryz.prog 73 #[.int .i64 x,.int .i64 y] w fun e w'=>e=.returned (.int .i64 (Lib.compareInt x y))∧w'=w:=Any.cmp_Compare_int Tryz.lays122 x y w
def Tryz.lays144_ren:Go.Shelf.Ren:=⟨fun|144=>192|143=>227|219=>241|217=>250|225=>251|224=>252|267=>253|266=>256|314=>257|n=>n,fun|9=>9|4=>4|3=>3|5=>5|46=>108|146=>229|51=>138|n=>n,fun|1=>0|n=>n⟩
theorem Tryz.lays144:Go.Proofs.Lays.n144 Tryz.prog Tryz.lays144_ren:={
 mixed:=by kernel_rfl
 f143:=Tryz.func227.trans (congrArg some (by kernel_rfl))
 f144:=Tryz.func192.trans (congrArg some (by kernel_rfl))
 f217:=Tryz.func250.trans (congrArg some (by kernel_rfl))
 f219:=Tryz.func241.trans (congrArg some (by kernel_rfl))
 f224:=Tryz.func252.trans (congrArg some (by kernel_rfl))
 f225:=Tryz.func251.trans (congrArg some (by kernel_rfl))
 f266:=Tryz.func256.trans (congrArg some (by kernel_rfl))
 f267:=Tryz.func253.trans (congrArg some (by kernel_rfl))
 f314:=Tryz.func257.trans (congrArg some (by kernel_rfl))
 t3:=Tryz.underlying3
 a3:=Tryz.isAgg3
 z3:=Tryz.sizeOf3
 v3:=Tryz.zeroValue3
 t4:=Tryz.underlying4
 a4:=Tryz.isAgg4
 z4:=Tryz.sizeOf4
 v4:=Tryz.zeroValue4
 t5:=Tryz.underlying5
 a5:=Tryz.isAgg5
 z5:=Tryz.sizeOf5
 v5:=Tryz.zeroValue5
 t9:=Tryz.underlying9
 a9:=Tryz.isAgg9
 z9:=Tryz.sizeOf9
 v9:=Tryz.zeroValue9
 t46:=Tryz.underlying108
 a46:=Tryz.isAgg108
 z46:=Tryz.sizeOf108
 v46:=Tryz.zeroValue108
 t51:=Tryz.underlying138
 a51:=Tryz.isAgg138
 z51:=Tryz.sizeOf138
 v51:=Tryz.zeroValue138
 t146:=Tryz.underlying229
 a146:=Tryz.isAgg229
 z146:=Tryz.sizeOf229
 v146:=Tryz.zeroValue229
 g1:=by kernel_rfl }
open Go.RowKit Go.Lib in
theorem Tryz.strings_Contains (s sub:ByteArray) (m:Int) (w:World) (hs:s.size<4294967281) (hm:w.cell? ⟨0,0,none⟩=some (.int .i64 m)) :
  Calls Tryz.prog 192 #[.string s,.string sub] w fun e w'=>e=.returned (.bool (Lib.contains s.data.toList sub.data.toList))∧w'=w:=Any.strings_Contains Tryz.lays144 s sub m w hs hm
def Tryz.lays189_ren:Go.Shelf.Ren:=⟨fun|189=>244|125=>75|257=>255|128=>115|129=>116|294=>258|295=>259|296=>260|297=>261|298=>262|299=>263|216=>264|300=>265|301=>266|328=>267|329=>166|330=>167|331=>268|332=>269|215=>106|343=>270|n=>n,fun|28=>38|3=>3|46=>108|0=>0|51=>138|53=>140|4=>4|183=>132|182=>131|131=>117|5=>5|9=>9|218=>175|222=>179|228=>206|229=>207|n=>n,fun|n=>n⟩
theorem Tryz.lays189:Go.Proofs.Lays.n189 Tryz.prog Tryz.lays189_ren:={
 mixed:=by kernel_rfl
 f125:=Tryz.func75.trans (congrArg some (by kernel_rfl))
 f128:=Tryz.func115.trans (congrArg some (by kernel_rfl))
 f129:=Tryz.func116.trans (congrArg some (by kernel_rfl))
 f189:=Tryz.func244.trans (congrArg some (by kernel_rfl))
 f215:=Tryz.func106.trans (congrArg some (by kernel_rfl))
 f216:=Tryz.func264.trans (congrArg some (by kernel_rfl))
 f257:=Tryz.func255.trans (congrArg some (by kernel_rfl))
 f294:=Tryz.func258.trans (congrArg some (by kernel_rfl))
 f295:=Tryz.func259.trans (congrArg some (by kernel_rfl))
 f296:=Tryz.func260.trans (congrArg some (by kernel_rfl))
 f297:=Tryz.func261.trans (congrArg some (by kernel_rfl))
 f298:=Tryz.func262.trans (congrArg some (by kernel_rfl))
 f299:=Tryz.func263.trans (congrArg some (by kernel_rfl))
 f300:=Tryz.func265.trans (congrArg some (by kernel_rfl))
 f301:=Tryz.func266.trans (congrArg some (by kernel_rfl))
 f328:=Tryz.func267.trans (congrArg some (by kernel_rfl))
 f329:=Tryz.func166.trans (congrArg some (by kernel_rfl))
 f330:=Tryz.func167.trans (congrArg some (by kernel_rfl))
 f331:=Tryz.func268.trans (congrArg some (by kernel_rfl))
 f332:=Tryz.func269.trans (congrArg some (by kernel_rfl))
 f343:=Tryz.func270.trans (congrArg some (by kernel_rfl))
 t0:=Tryz.underlying0
 a0:=Tryz.isAgg0
 z0:=Tryz.sizeOf0
 v0:=Tryz.zeroValue0
 t3:=Tryz.underlying3
 a3:=Tryz.isAgg3
 z3:=Tryz.sizeOf3
 v3:=Tryz.zeroValue3
 t4:=Tryz.underlying4
 a4:=Tryz.isAgg4
 z4:=Tryz.sizeOf4
 v4:=Tryz.zeroValue4
 t5:=Tryz.underlying5
 a5:=Tryz.isAgg5
 z5:=Tryz.sizeOf5
 v5:=Tryz.zeroValue5
 t9:=Tryz.underlying9
 a9:=Tryz.isAgg9
 z9:=Tryz.sizeOf9
 v9:=Tryz.zeroValue9
 t28:=Tryz.underlying38
 a28:=Tryz.isAgg38
 z28:=Tryz.sizeOf38
 v28:=Tryz.zeroValue38
 t46:=Tryz.underlying108
 a46:=Tryz.isAgg108
 z46:=Tryz.sizeOf108
 v46:=Tryz.zeroValue108
 t51:=Tryz.underlying138
 a51:=Tryz.isAgg138
 z51:=Tryz.sizeOf138
 v51:=Tryz.zeroValue138
 t53:=Tryz.underlying140
 a53:=Tryz.isAgg140
 z53:=Tryz.sizeOf140
 v53:=Tryz.zeroValue140
 t131:=Tryz.underlying117
 a131:=Tryz.isAgg117
 z131:=Tryz.sizeOf117
 v131:=Tryz.zeroValue117
 t182:=Tryz.underlying131
 a182:=Tryz.isAgg131
 z182:=Tryz.sizeOf131
 v182:=Tryz.zeroValue131
 t183:=Tryz.underlying132
 a183:=Tryz.isAgg132
 z183:=Tryz.sizeOf132
 v183:=Tryz.zeroValue132
 t218:=Tryz.underlying175
 a218:=Tryz.isAgg175
 z218:=Tryz.sizeOf175
 v218:=Tryz.zeroValue175
 t222:=Tryz.underlying179
 a222:=Tryz.isAgg179
 z222:=Tryz.sizeOf179
 v222:=Tryz.zeroValue179
 t228:=Tryz.underlying206
 a228:=Tryz.isAgg206
 z228:=Tryz.sizeOf206
 v228:=Tryz.zeroValue206
 t229:=Tryz.underlying207
 a229:=Tryz.isAgg207
 z229:=Tryz.sizeOf207
 v229:=Tryz.zeroValue207 }
open Go.Sort Go.RowKit in
theorem Tryz.slices_Sort_int (blk off cap:Nat) (zs:List Int) (w:World) (hH:Holds (Value.int .i64) w blk off zs.toArray) (hblk:blk<w.heap.size) (hsz:zs.length<4611686018427387904) :
  Calls Tryz.prog 244 #[.slice (some ⟨blk,off,none⟩) zs.length cap] w fun e w' =>
   e=.returned (.tuple #[])∧∃ n os,w'=grow (putRow (Value.int .i64) (Sort.ahead w n) blk off (zs.mergeSort fun x y=>decide (x≤y)).toArray) os:=Any.slices_Sort_int Tryz.lays189 blk off cap zs w hH hblk hsz
def Tryz.laysGw17_ren:Go.Shelf.Ren:=⟨fun|17=>193|15=>228|20=>242|n=>n,fun|9=>9|23=>197|4=>4|3=>3|0=>0|21=>21|n=>n,fun|n=>n⟩
theorem Tryz.laysGw17:Go.Proofs.LaysGw.n17 Tryz.prog Tryz.laysGw17_ren:={
 mixed:=by kernel_rfl
 f15:=Tryz.func228.trans (congrArg some (by kernel_rfl))
 f17:=Tryz.func193.trans (congrArg some (by kernel_rfl))
 f20:=Tryz.func242.trans (congrArg some (by kernel_rfl))
 t0:=Tryz.underlying0
 a0:=Tryz.isAgg0
 z0:=Tryz.sizeOf0
 v0:=Tryz.zeroValue0
 i0:=by kernel_rfl
 t3:=Tryz.underlying3
 a3:=Tryz.isAgg3
 z3:=Tryz.sizeOf3
 v3:=Tryz.zeroValue3
 i3:=by kernel_rfl
 t4:=Tryz.underlying4
 a4:=Tryz.isAgg4
 z4:=Tryz.sizeOf4
 v4:=Tryz.zeroValue4
 i4:=by kernel_rfl
 t9:=Tryz.underlying9
 a9:=Tryz.isAgg9
 z9:=Tryz.sizeOf9
 v9:=Tryz.zeroValue9
 i9:=by kernel_rfl
 t21:=Tryz.underlying21
 a21:=Tryz.isAgg21
 z21:=Tryz.sizeOf21
 v21:=Tryz.zeroValue21
 i21:=by kernel_rfl
 t23:=Tryz.underlying197
 a23:=Tryz.isAgg197
 z23:=Tryz.sizeOf197
 v23:=Tryz.zeroValue197
 i23:=by kernel_rfl }
open Go.RowKit Go.Lib in
theorem Tryz.strings_ContainsFunc_grows (g:Nat) (lb:Array Value) (eg:∀ args w,(callFunc g args).run Tryz.prog w=.ok (.enter g args) w) (p:Nat→Bool) (s:ByteArray) (w:World) (hp:PredGrows Tryz.prog g lb p w) :
  Calls Tryz.prog 193 #[.string s,.func (.func g) #[] lb] w fun e w'=>e=.returned (.bool (decide (0≤Lib.idxFunc p true s)))∧Below w.heap.size w w':=Any.strings_ContainsFunc_grows Tryz.laysGw17 g lb eg p s w hp
open Go.RowKit Go.Sort in
theorem Tryz.slices_Sort_int_none (p:Option Addr) (cap:Nat) (w:World) :
  Calls Tryz.prog 244 #[.slice p 0 cap] w fun e w'=>e=.returned (.tuple #[])∧w'=w:=Any.slices_Sort_int_none Tryz.lays189 p cap w
end Go.Proofs
namespace Go.Proofs.YtdochkemaiokfaaGreat
open Go.RowKit
theorem c_76 {p:Prop} (h:p:=by
 go_wp2_with (first|(go_at_call 192;refine KC.out.mono ?_;rintro e w1 ⟨rfl,rfl⟩)|(go_at_call 193;refine KF.out.mono ?_;rintro e w2 ⟨rfl,hg⟩))
 go_ret;exact⟨aV b_54,hg⟩
):p:=h
theorem c_116 {p:Prop} (h:p:=by
 simp only [fB,hsd,aDh s hz0,aCw s hz1,bCt];rw[decide_eq_true b_53];rfl
):p:=h
theorem c_117 {p:Prop} (h:p:=by
 go_enter Tryz.func231,Tryz.ntmps231;go_wp2;go_ret;exact⟨rfl,uX w⟩
):p:=h
theorem c_130 {p:Prop} (h:p:=by
 go_wp2;go_ret;exact⟨rfl,rfl⟩
):p:=h
theorem h_14 {p:Prop} (h:p:=by
 exact(show Calls Tryz.prog 192 #[.string s,.string ⟨#[32,32]⟩] w fun e w'=>e=.returned (.bool (Lib.contains s.data.toList [32,32]))∧w=w' from(Tryz.strings_Contains s ⟨#[32,32]⟩ m w b_53 hm).mono fun _ _ h=>⟨h.1,h.2.symm⟩)
):p:=h
theorem h_34 {p:Prop} (h:p:=by
 exact(show fB s.data.toList=(!((s[0].toNat:Int) == 32) && (!((s[s.size-1].toNat:Int) == 32) && (!Lib.contains s.data.toList [32,32] && iB 32 126 s.data.toList))) from by
  exact c_116)
):p:=h
theorem h_126 {p:Prop} (h:p:=by
 exact(show decide (126<x)=decide ((126:Int)<(x:Int)) from by simp only [decide_eq_decide];omega)
):p:=h
theorem h_166 {p:Prop} (h:p:=by
 exact(show decide ((64:Int)<(s.size:Int))=false from by simp;omega)
):p:=h
theorem h_188 {p:Prop} (h:p:=by
 exact(show decide ((s.size:Int)<1)=false from by simp;omega)
):p:=h
def Env (w:World):Prop:=(∃ m:Int,w.cell? ⟨0,0,none⟩=some (.int .i64 m))∧∀ g,Tryz.prog.globalNamed "internal/strconv.uint64pow10" = some g→Lib.TabIs Tryz.prog w "internal/strconv.uint64pow10" .u64 Lib.pow10Tab
theorem Env.mono {w w':World} (h:Env w) (hg:aA w w'):Env w':=by
 obtain⟨⟨m,hm⟩,ht⟩:=h;exact⟨⟨m,(hg.cell (p:=⟨0,0,none⟩) (World.block_lt_of_cell? w _ hm)).trans hm⟩,fun g e=>(Lib.tabBelow_of_tabIs (ht g e)) w' hg⟩
theorem fM (s:ByteArray):s.data.toList.length=s.size:=by cases s;rfl
theorem aDh (s:ByteArray) (h:0<s.size):s.data.toList.head? = some s[0]:=by
 rw[List.head?_eq_getElem?,List.getElem?_eq_getElem (by rw[fM];exact h)];rfl
theorem aCw (s:ByteArray) (h:s.size-1<s.size):s.data.toList.getLast? = some s[s.size-1]:=by
 rw[List.getLast?_eq_getElem?,List.getElem?_eq_getElem (by rw[fM];exact h)];simp only [fM];rfl
theorem bCt (b:UInt8):(some b == some (32:UInt8))=((b.toNat:Int) == 32):=by
 rw[Bool.eq_iff_iff,beq_iff_eq,beq_iff_eq,Option.some.injEq,← UInt8.toNat_inj];have h2:(32:UInt8).toNat=32:=rfl;omega
theorem sI (n lo hi:Int) (w:World):Calls Tryz.prog 215 #[.int .i64 n,.int .i64 lo,.int .i64 hi] w fun e w'=>e=.returned (.bool (aN n lo hi))∧w=w':=by
 unfold aN;cases a1:decide (lo≤n)<;>cases a2:decide (n≤hi)
 all_goals
  go_enter Tryz.func215,Tryz.ntmps215;exact c_130
theorem aXw (x:Nat) (w:World):Calls Tryz.prog 246 (#[.int .i32 (x:Int)] ++ #[]) w fun e w'=>e=.returned (.bool (eF 32 126 x))∧Below w.heap.size w w':=by
 have e1:decide (x<32)=decide ((x:Int)<32):=by simp only [decide_eq_decide];omega
 have e2:=h_126;unfold eF;rw[e1,e2];clear e1 e2;cases a1:decide ((x:Int)<32)<;>cases a2:decide ((126:Int)<(x:Int))
 all_goals
  go_enter Tryz.func246,Tryz.ntmps246;go_wp2;go_ret;exact⟨rfl,Below.refl _ _⟩
theorem xX:∀ args w,(callFunc 246 args).run Tryz.prog w=.ok (.enter 246 args) w:=enters_of Tryz.func246 (by kernel_rfl) rfl
theorem aPf (s:ByteArray) (w:World):Calls Tryz.prog 193 #[.string s,.func (.func 246) #[] #[]] w fun e w'=>e=.returned (.bool (!iB 32 126 s.data.toList))∧aA w w':=by
 rw[← kY 32 126 b_53 s];exact Tryz.strings_ContainsFunc_grows _ #[] xX (eF 32 126) s w (fun W x _ _=>aXw x W)
theorem bCg (s:ByteArray) (w:World) (hE:Env w):Calls Tryz.prog 231 #[.string s] w fun e w'=>e=.returned (.bool (fB s.data.toList))∧aA w w':=by
 have hsd:=fM s;by_cases h0:s.size<1
 ·have hN:fB s.data.toList=false:=by simp only [fB,hsd];rw[decide_eq_false b_53];rfl
  rw[hN];have h0':(s.size:Int)<1:=by omega
  clear hsd hN hE;exact c_117
 have h0':=h_188;by_cases h1:64<s.size
 ·have hN:fB s.data.toList=false:=by simp only [fB,hsd];rw[decide_eq_false b_53];rfl
  rw[hN];have h1':(64:Int)<(s.size:Int):=by omega
  clear hsd hN hE;exact c_117
 have h1':=h_166;have hz0:0<s.size:=by omega
 have hs64:s.size≤64:=by omega
 have hz1:s.size-1<s.size:=by omega
 have hN:=h_34;rw[hN];have hi1:(0:Int)≤(s.size:Int)-1:=by omega
 have hi2:(s.size:Int)-1<(s.size:Int):=by omega
 obtain⟨⟨m,hm⟩,-⟩:=hE;have kc:=h_14;have kf:=aPf s w;generalize Lib.contains s.data.toList [32,32]=c at kc;generalize iB 32 126 s.data.toList=al at kf;have KC:=uZ kc;have KF:=uZ kf;clear hsd hN kc kf h0 h1 hm
 cases a1:((s[0].toNat:Int) == 32) with
 | true =>
  exact c_117
 | false =>
 cases a2:((s[s.size-1].toNat:Int) == 32) with
 | true =>
  exact c_117
 | false =>
 cases c with
 | true =>
  go_enter Tryz.func231,Tryz.ntmps231;go_wp2_with (first|(go_at_call 192;refine KC.out.mono ?_;rintro e w1 ⟨rfl,rfl⟩))
  go_ret;exact⟨rfl,uX w⟩
 | false =>
  go_enter Tryz.func231,Tryz.ntmps231;exact c_76
theorem aUg (x:Nat) (w:World):Calls Tryz.prog 247 (#[.int .i32 (x:Int)] ++ #[]) w fun e w'=>e=.returned (.bool (eF 33 126 x))∧Below w.heap.size w w':=by
 have e1:decide (x<33)=decide ((x:Int)<33):=by simp only [decide_eq_decide];omega
 have e2:=h_126;unfold eF;rw[e1,e2];clear e1 e2;cases a1:decide ((x:Int)<33)<;>cases a2:decide ((126:Int)<(x:Int))
 all_goals
  go_enter Tryz.func247,Tryz.ntmps247;go_wp2;go_ret;exact⟨rfl,Below.refl _ _⟩
theorem uA:∀ args w,(callFunc 247 args).run Tryz.prog w=.ok (.enter 247 args) w:=enters_of Tryz.func247 (by kernel_rfl) rfl
theorem aJn (s:ByteArray) (w:World):Calls Tryz.prog 193 #[.string s,.func (.func 247) #[] #[]] w fun e w'=>e=.returned (.bool (!iB 33 126 s.data.toList))∧aA w w':=by
 rw[← kY 33 126 b_53 s];exact Tryz.strings_ContainsFunc_grows _ #[] uA (eF 33 126) s w (fun W x _ _=>aUg x W)
theorem aXx (s:ByteArray) (w:World):Calls Tryz.prog 232 #[.string s] w fun e w'=>e=.returned (.bool (jP s.data.toList))∧aA w w':=by
 have hN:jP s.data.toList=(aN (s.size:Int) 1 64 && iB 33 126 s.data.toList):=by
  simp only [jP,fM,aN]
  congr 1
  rw[Bool.eq_iff_iff,decide_eq_true_eq,Bool.and_eq_true,decide_eq_true_eq,decide_eq_true_eq];omega
 rw[hN];have kw:=sI (s.size:Int) 1 64 w;have kf:=aJn s w;generalize aN (s.size:Int) 1 64=c at kw;generalize iB 33 126 s.data.toList=al at kf;have KW:=uZ kw;have KF:=uZ kf;clear kw kf hN
 cases c with
 | false =>
  go_enter Tryz.func232,Tryz.ntmps232;go_wp2_with (first|(go_at_call 215;refine KW.out.mono ?_;rintro e w1 ⟨rfl,rfl⟩))
  go_ret;exact⟨rfl,uX w⟩
 | true =>
  go_enter Tryz.func232,Tryz.ntmps232;go_wp2_with (first|(go_at_call 215;refine KW.out.mono ?_;rintro e w1 ⟨rfl,rfl⟩)|(go_at_call 193;refine KF.out.mono ?_;rintro e w2 ⟨rfl,hg⟩))
  go_ret;exact⟨aV b_54,hg⟩
end Go.Proofs.YtdochkemaiokfaaGreat