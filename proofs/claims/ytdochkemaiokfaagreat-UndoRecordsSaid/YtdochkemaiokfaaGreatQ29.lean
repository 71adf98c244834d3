/- Lemmas on what the functions of the program and of the library compute: Lap, Lcm, PlainUc, PlainUd, UnB, IdxU, PlainUe, PlainUg, PlainTl. The conditions stand at each. -/
import Derived.Test.YtdochkemaiokfaaGreatQ27
import Derived.Test.YtdochkemaiokfaaGreatQ15
import Derived.Test.YtdochkemaiokfaaGreatQ28
import Derived.Test.YtdochkemaiokfaaGreatQ16
import Derived.Test.YtdochkemaiokfaaGreatQ25
import Derived.Test.YtdochkemaiokfaaGreatQ3
import Derived.Test.YtdochkemaiokfaaGreatQ10
import Derived.Test.YtdochkemaiokfaaGreatQ9
import Derived.Test.YtdochkemaiokfaaGreatQ2
import Derived.Lib.SlicesCompact
import Derived.Test.YtdochkemaiokfaaGreatQ5
import Derived.Sort.OwnSortedInts
import Derived.Shelf.Small.Bits
import Derived.Shelf.Small.Strs
import Derived.Shelf.Small.Wraps
import Derived.Shelf.Strings.Search3
import Derived.Shelf.LaysM
import Derived.Shelf.Strings.Shaped
import Derived.Shelf.Sort.Plain
import Derived.Shelf.Strings.FuncGrows
import Derived.Shelf.Slices.Reverse
import Derived.Ground.Names2Prog
import Derived.Shelf.Slices.SearchI
import Derived.Shelf.Slices.In.SortNone
import Derived.Test.YtdochkemaiokfaaGreatProg
import Derived.Test.YtdochkemaiokfaaGreatQ4
import Derived.Sort.Grow
import Derived.Lib.ItoaLen
import Derived.Laws.Concat
import Derived.Test.YtdochkemaiokfaaGreatQ21
import Derived.Maps.AppendAt
import Derived.Test.YtdochkemaiokfaaGreatQ8
import Derived.Deep.CutRange
import Derived.Deep.RegionHeld3
import Derived.BigQuiet
import Derived.WalkMore
import Derived.Test.YtdochkemaiokfaaGreatQ26
import Derived.Test.YtdochkemaiokfaaGreatQ1
set_option maxHeartbeats 16000000
set_option maxRecDepth 100000
set_option linter.all false
namespace Go.Proofs.YtdochkemaiokfaaGreat
open Go.RowKit
theorem aCm {W:World} {X k:Nat} {t:TypeId} {v x y:Value} {cs:List Value} (hX:W.heap[X]? = some (.cells #[.slice none 0 0,.slice none 0 0] t (0,0))) (h:Rd W k v cs) (hk:0<k) (hi:∀ c,cs[0]? = some c→c≠.slice none 0 0):Rd ((W.setCell ⟨X,0,none⟩ x).setCell ⟨X,1,none⟩ y) k v cs:=by
 obtain⟨A,n,c,rfl,hl,hn,hc,h0⟩:=h;refine⟨A,n,c,rfl,hl,hn,hc,fun hpos=>?_⟩;obtain⟨b,off,rfl,hb,hcell⟩:=h0 hpos
 have hne:b≠X:=by
  intro e;subst e;have hlen:=h_174;have h1:=hcell 0 cs[0] (by rw[List.getElem?_eq_getElem hlen]);have h2:=hi cs[0] (by rw[List.getElem?_eq_getElem hlen]);simp[World.cell?,hX] at h1
  match off,h1 with
  | 0,h1=>simp at h1;exact h2 h1.symm
  | 1,h1=>simp at h1;exact h2 h1.symm
  | n+2,h1=>simp at h1
 refine⟨b,off,rfl,by simpa using hb,fun j u hu=>?_⟩;rw[uV _ _ _ _ (aBf hne.symm),uV _ _ _ _ (aBf hne.symm)];exact hcell j u hu
theorem dF.setT {W:World} {X:Nat} {ty:TypeId} {rv bv x y:Value} {t:Tr} (hX:W.heap[X]? = some (.cells #[.slice none 0 0,.slice none 0 0] ty (0,0))) (h:dF W rv bv t):dF ((W.setCell ⟨X,0,none⟩ x).setCell ⟨X,1,none⟩ y) rv bv t:=by
 have hI:∀(l:List Int) c,(l.flatMap eE)[0]? = some c→c≠.slice none 0 0:=fun l c hc=>by
  cases l with
  | nil=>cases hc
  | cons a r =>
   have:some (Value.int .i64 a)=some c:=hc;injection this with this;rw[← this];intro e;cases e
 obtain⟨h1,cs,h2,h3,h4⟩:=h;refine⟨aCm hX h1 b_53 (hI _),cs,aCm hX h2 b_53 (fun c hc=>?_),h3,fun i hi hi'=>⟨(h4 i hi hi').1,aCm hX (h4 i hi hi').2 b_53 (hI _)⟩⟩
 cases cs with
 | nil=>cases hc
 | cons a r =>
  have:some (Value.int .i64 a.id)=some c:=hc;injection this with this;rw[← this];intro e;cases e
def aSr (WA:World) (R:Tr × Int) (s2 s3:Value) (wx:World):Prop:=∃ X rv bv,s2=.pointer (some ⟨X,0,none⟩)∧s3=.int .i64 R.2∧wx.cell? ⟨X,0,none⟩=some rv∧wx.cell? ⟨X,1,none⟩=some bv∧dF wx rv bv R.1∧aA WA wx
theorem aOf {WA W:World} {R:Tr × Int} {X:Nat} {rv bv:Value} (hX:W.heap[X]? = some (.cells #[.slice none 0 0,.slice none 0 0] 43 (0,0))) (hlo:WA.heap.size≤X) (hG:aA WA W) (h:dF W rv bv R.1):aSr WA R (.pointer (some ⟨X,0,none⟩)) (.int .i64 R.2) ((W.setCell ⟨X,0,none⟩ rv).setCell ⟨X,1,none⟩ bv):=by
 have c0:W.cell? ⟨X,0,none⟩=some (.slice none 0 0):=by simp[World.cell?,hX]
 have c1:W.cell? ⟨X,1,none⟩=some (.slice none 0 0):=by simp[World.cell?,hX]
 obtain⟨q0,q1⟩:=aK (v0:=rv) (v1:=bv) c0 c1;exact⟨X,rv,bv,rfl,rfl,q0,q1,h.setT hX,(hG.setCell hlo _).setCell hlo _⟩
theorem aGf {WA W:World} {R:Tr × Int} {rv bv:Value} (hG:aA WA W) (h:dF W rv bv R.1):aSr WA R (.pointer (some ⟨W.heap.size,0,none⟩)) (.int .i64 R.2) (W.alloc (.cells #[rv,bv] 43)) :=
 ⟨_,rv,bv,rfl,rfl,yQ (uX _) 0 _ rfl,yQ (uX _) 1 _ rfl,h.mono ((uX _).alloc _),hG.alloc _⟩
theorem c_99 {p:Prop} (h:p:=by
 have hl:=hs.len;refine⟨⟨by omega,fun i hi=>?_⟩,?_⟩
 ·have:=nA (hs.kids _ (List.getElem_mem hi))
  omega
 ·have:=nA hs.roots
  omega
):p:=h
theorem xK {W W2:World} {H:Nat} {r b v0 v1 v2 v3 v4 v5 v6 v7 v8 v9 v10 v11:Value} (h:W.cell? ⟨H,0,none⟩=some (r)∧W.cell? ⟨H,1,none⟩=some (b)∧W.cell? ⟨H+1,0,none⟩=some (v0)∧W.cell? ⟨H+1,1,none⟩=some (v1)∧W.cell? ⟨H+1,2,none⟩=some (v2)∧W.cell? ⟨H+1,3,none⟩=some (v3)∧W.cell? ⟨H+1,4,none⟩=some (v4)∧W.cell? ⟨H+1,5,none⟩=some (v5)∧W.cell? ⟨H+1,6,none⟩=some (v6)∧W.cell? ⟨H+1,7,none⟩=some (v7)∧W.cell? ⟨H+1,8,none⟩=some (v8)∧W.cell? ⟨H+1,9,none⟩=some (v9)∧W.cell? ⟨H+1,10,none⟩=some (v10)∧W.cell? ⟨H+1,11,none⟩=some (v11)) (g:aA W W2):W2.cell? ⟨H,0,none⟩=some (r)∧W2.cell? ⟨H,1,none⟩=some (b)∧W2.cell? ⟨H+1,0,none⟩=some (v0)∧W2.cell? ⟨H+1,1,none⟩=some (v1)∧W2.cell? ⟨H+1,2,none⟩=some (v2)∧W2.cell? ⟨H+1,3,none⟩=some (v3)∧W2.cell? ⟨H+1,4,none⟩=some (v4)∧W2.cell? ⟨H+1,5,none⟩=some (v5)∧W2.cell? ⟨H+1,6,none⟩=some (v6)∧W2.cell? ⟨H+1,7,none⟩=some (v7)∧W2.cell? ⟨H+1,8,none⟩=some (v8)∧W2.cell? ⟨H+1,9,none⟩=some (v9)∧W2.cell? ⟨H+1,10,none⟩=some (v10)∧W2.cell? ⟨H+1,11,none⟩=some (v11):=by
 obtain⟨r0,b0,h0,h1,h2,h3,h4,h5,h6,h7,h8,h9,h10,h11⟩:=h;exact⟨uQ g r0,uQ g b0,uQ g h0,uQ g h1,uQ g h2,uQ g h3,uQ g h4,uQ g h5,uQ g h6,uQ g h7,uQ g h8,uQ g h9,uQ g h10,uQ g h11⟩
theorem aLz {w W:World} {r b:Value} (o:Opn) (g:aA ((w.alloc (.cells [r,b].toArray 43)).alloc (.cells o.cells.toArray 26)) W):W.cell? ⟨w.heap.size,0,none⟩=some (r)∧W.cell? ⟨w.heap.size,1,none⟩=some (b)∧W.cell? ⟨w.heap.size+1,0,none⟩=some (.int .i64 o.id)∧W.cell? ⟨w.heap.size+1,1,none⟩=some (.int .i64 o.day)∧W.cell? ⟨w.heap.size+1,2,none⟩=some (.int .i64 o.kind)∧W.cell? ⟨w.heap.size+1,3,none⟩=some (.int .i64 o.unit)∧W.cell? ⟨w.heap.size+1,4,none⟩=some (.int .i64 o.parent)∧W.cell? ⟨w.heap.size+1,5,none⟩=some (.int .i64 o.before)∧W.cell? ⟨w.heap.size+1,6,none⟩=some (.int .i64 o.level)∧W.cell? ⟨w.heap.size+1,7,none⟩=some (.string o.title)∧W.cell? ⟨w.heap.size+1,8,none⟩=some (.string o.mark)∧W.cell? ⟨w.heap.size+1,9,none⟩=some (.int .i64 o.office)∧W.cell? ⟨w.heap.size+1,10,none⟩=some (.int .i64 o.acc)∧W.cell? ⟨w.heap.size+1,11,none⟩=some (.int .i64 o.num):=by
 have h:=aU o g;rw[eN] at h;have g1:aA (w.alloc (.cells [r,b].toArray 43)) W:=((uX _).alloc _).trans g;exact⟨yQ g1 0 _ rfl,yQ g1 1 _ rfl,h⟩
theorem aH {w:World} {X:Nat} (h:w.heap[X]? = some (.cells [.slice none 0 0,.slice none 0 0].toArray 43)):w.cell? ⟨X,0,none⟩=some (.slice none 0 0)∧w.cell? ⟨X,1,none⟩=some (.slice none 0 0)∧w.frozen? ⟨X,0,none⟩=false∧w.frozen? ⟨X,1,none⟩=false:=by
 simp[World.cell?,World.frozen?,h]
theorem cX {W W2:World} {A B C:Addr} {x y z:Value} (h:W.cell? A=some x∧W.cell? B=some y∧W.cell? C=some z) (g:aA W W2):W2.cell? A=some x∧W2.cell? B=some y∧W2.cell? C=some z:=⟨uQ g h.1,uQ g h.2.1,uQ g h.2.2⟩
theorem nA {l:List Br} {ks:List Int} {p:Int} (h:fK l ks p):ks.length≤l.length:=by
 have h1:=List.Nodup.length_le_of_subset (l₂:=l.map Br.id) h.1 (fun x hx=>by
  obtain⟨b,hb,_,e⟩:=(h.2 x).1 hx
  exact List.mem_map.2 ⟨b,hb,e⟩)
 simpa using h1
theorem aKb {t:Tr} (h:aM t):cF t.brs∧t.roots.length≤1000000:=by
 have hs:=((lQ t).1 h).1;exact c_99
theorem iJ:∀(a b:List (Int × Opn)) (t:Tr),(bI a t).2.2=0→bI (a++b) t=bI b (bI a t).1
 | [],_,_,_=>rfl
 | (i,o)::a,b,t,h=>by
  rw[List.cons_append,bI];rw[bI] at h ⊢;by_cases h0:(aT t o).2=0
  ·rw[if_pos h0] at h ⊢
   rw[if_pos h0];exact iJ a b _ h
  ·rw[if_neg h0] at h
   exact absurd h h0
inductive gD:List Opn→Prop
 | nil:gD []
 | snoc {l:List Opn} {o:Opn} (h:gD l) (ha:(bF l (aG l).1 o).2.2=0):gD (l++[o])
theorem aCv {l:List Opn} {o p:Opn} (h:mB l o=false) (hl:l.getLast? = some p):p.id<o.id∧p.day≤o.day:=by
 unfold mB at h;rw[hl] at h;simp only [Bool.or_eq_false_iff,decide_eq_false_iff_not] at h;omega
theorem nC {l:List Opn} {o:Opn} (h:eX l o=0):l.length<512∧aP o=true∧mB l o=false∧(o.kind=6→∃ p,iZ l o.unit=some p∧¬ (p.kind=1∧p.acc≠0∧cE l p=true)):=by
 unfold eX at h;split at h
 ·cases h
 ·rename_i h1
  split at h
  ·cases h
  ·rename_i h2
   split at h
   ·cases h
   ·rename_i h3
    refine⟨by omega,by simpa using h2,by simpa using h3,fun h6=>?_⟩;split at h
    ·rename_i h4
     exact absurd h h4.2
    ·split at h
     ·cases h
     ·split at h
      ·cases h
      ·split at h
       ·cases h
       ·rename_i p hp
        refine⟨p,hp,fun hc=>?_⟩;rw[if_pos hc] at h;cases h
theorem gL {l:List Opn} {t:Tr} {o:Opn} (h:(bF l t o).2.2=0):eX l o=0:=by
 unfold bF at h;by_cases hf:eX l o=0
 ·exact hf
 ·rw[if_pos hf] at h
  exact absurd h hf
structure aIw (l:List Opn):Prop where
 ids:l.Pairwise fun a b=>a.id<b.id
 days:l.Pairwise fun a b=>a.day≤b.day
 formed:∀ o∈l,aP o=true
 undo:∀ o∈l,o.kind=6→∃ p∈l,p.id=o.unit∧p.kind≠6
 short:l.length≤512
theorem aDl {l:List Opn} {id:Int} {p:Opn} (h:iZ l id=some p):p∈l∧p.id=id∧p.kind≠6:=by
 unfold iZ at h;have h1:=List.mem_of_find?_eq_some h;have h2:=List.find?_some h;simp only [Bool.and_eq_true,beq_iff_eq,bne_iff_ne] at h2;exact⟨h1,h2.1,h2.2⟩
theorem zT {R:Opn→Opn→Prop} (tr:∀ a b c,R a b→R b c→R a c) {l:List Opn} {o:Opn} (h:l.Pairwise R) (hl:∀ p,l.getLast? = some p→R p o):(l++[o]).Pairwise R:=by
 refine List.pairwise_append.2 ⟨h,by simp,fun a ha b hb=>?_⟩;rw[List.mem_singleton.1 hb]
 cases hg:l.getLast? with
 | none=>rw[List.getLast?_eq_none_iff.1 hg] at ha;cases ha
 | some p =>
  obtain⟨m,hm⟩:=List.getLast?_eq_some_iff.1 hg;rw[hm] at ha h;rcases List.mem_append.1 ha with ha|ha
  ·exact tr _ _ _ ((List.pairwise_append.1 h).2.2 a ha p b_54) (hl p hg)
  ·rw[List.mem_singleton.1 ha];exact hl p hg
theorem tO {l:List Opn} (h:gD l):aIw l:=by
 induction h with
 | nil=>exact⟨List.Pairwise.nil,List.Pairwise.nil,by simp,by simp,by simp⟩
 | @snoc l o h ha ih =>
  obtain⟨h1,h2,h3,h4⟩:=nC (gL ha);refine⟨zT (fun a b c h k=>by omega) ih.ids (fun p hp=>(aCv h3 hp).1),zT (fun a b c h k=>by omega) ih.days (fun p hp=>(aCv h3 hp).2),fun x hx=>?_,fun x hx hk=>?_,by rw[List.length_append,List.length_singleton];omega⟩
  ·rcases List.mem_append.1 hx with hx|hx
   ·exact ih.formed x hx
   ·rw[List.mem_singleton.1 hx];exact h2
  ·rcases List.mem_append.1 hx with hx|hx
   ·obtain⟨p,hp,h⟩:=ih.undo x hx hk
    exact⟨p,List.mem_append.2 (.inl hp),h⟩
   ·rw[List.mem_singleton.1 hx] at hk ⊢
    obtain⟨p,hp,-⟩:=h4 hk;obtain⟨k1,k2,k3⟩:=aDl hp;exact⟨p,List.mem_append.2 (.inl k1),k2,k3⟩
theorem h_62 {p:Prop} (h:p:=by
 exact(show(aT (aG l).1 o).2=0 from by
  by_cases hz:(aT (aG l).1 o).2=0
  ·exact hz
  ·rw[if_pos hz] at ha
   exact absurd ha hz)
):p:=h
theorem aBt {l:List Opn} {o:Opn} (h:aIw l) (hl:∀ p,l.getLast? = some p→p.id<o.id):∀ x∈l,x.kind=6→x.unit≠o.id:=by
 intro x hx hk he;obtain⟨p,hp,h1,-⟩:=h.undo x hx hk
 have:p.id<o.id:=by
  cases hg:l.getLast? with
  | none=>rw[List.getLast?_eq_none_iff.1 hg] at hp;cases hp
  | some q =>
   have hq:=hl q hg;obtain⟨m,hm⟩:=List.getLast?_eq_some_iff.1 hg;have hi:=h.ids;rw[hm] at hp hi;rcases List.mem_append.1 hp with hp|hp
   ·have:=(List.pairwise_append.1 hi).2.2 p hp q b_54
    omega
   ·rw[List.mem_singleton.1 hp];exact hq
 omega
theorem qM {l:List Opn} {o:Opn} (h:aIw l) (hl:mB l o=false) (hk:o.kind≠6):cN (l++[o])=cN l++[((l.length:Int),o)] :=
 aAr hk (aBt h fun _ hp=>(aCv hl hp).1)
theorem jH:∀(a:List (Int × Opn)) (t:Tr),(bI a t).2.2=0→(bI a t).2=(-1,0)
 | [],_,_=>rfl
 | (i,o)::a,t,h=>by
  rw[bI] at h ⊢;by_cases h0:(aT t o).2=0
  ·rw[if_pos h0] at h ⊢
   exact jH a _ h
  ·rw[if_neg h0] at h
   exact absurd h h0
theorem yG {l:List Opn} (h:gD l):(aG l).2=(-1,0):=by
 induction h with
 | nil=>rfl
 | @snoc l o h ha ih =>
  have hf:=gL ha;obtain⟨h1,h2,h3,h4⟩:=nC hf;unfold bF at ha;rw[if_neg (by rw[hf];decide)] at ha;by_cases hk:o.kind=6
  ·rw[if_pos hk] at ha
   by_cases hr:(aG (l++[o])).2.2=0
   ·exact jH _ _ hr
   ·rw[if_pos hr] at ha
    exact absurd (show(20:Int)=0 from ha) b_52
  ·rw[if_neg hk] at ha
   have ha2:=h_62;refine jH _ _ ?_;rw[qM (tO h) h3 hk,iJ _ _ _ (by show(aG l).2.2=0;rw[ih])];show(bI [((l.length:Int),o)] (aG l).1).2.2=0;rw[bI,if_pos ha2];rfl
theorem yI {l:List Opn} {o:Opn} (h:gD l) (ha:(bF l (aG l).1 o).2.2=0):(bF l (aG l).1 o).1=(aG (l++[o])).1:=by
 have hf:=gL ha;obtain⟨h1,h2,h3,h4⟩:=nC hf;unfold bF at ha ⊢;rw[if_neg (by rw[hf];decide)] at ha ⊢;by_cases hk:o.kind=6
 ·rw[if_pos hk] at ha ⊢
  by_cases hr:(aG (l++[o])).2.2=0
  ·rw[if_neg (by rw[hr];decide)]
  ·rw[if_pos hr] at ha
   exact absurd (show(20:Int)=0 from ha) b_52
 ·rw[if_neg hk] at ha ⊢
  have ha2:=h_62;rw[if_neg (by rw[ha2];decide)];unfold aG;rw[qM (tO h) h3 hk,iJ _ _ _ (by show(aG l).2.2=0;rw[yG h])];show _=(bI [((l.length:Int),o)] (aG l).1).1;rw[bI,if_pos ha2];rfl
theorem aEb {l:List Opn} {o:Opn} (h:gD (l++[o])):gD l∧(bF l (aG l).1 o).2.2=0:=by
 generalize hx:l++[o]=x at h
 cases h with
 | nil=>simp at hx
 | @snoc m p h ha =>
  obtain⟨rfl,h2⟩:=List.append_inj' hx rfl;obtain rfl:o=p:=by simpa using h2
  exact⟨h,ha⟩
theorem yH:∀(n:Nat) (a b:List Opn),b.length=n→gD (a++b)→gD a
 | 0,a,b,hn,h=>by rw[List.eq_nil_of_length_eq_zero hn,List.append_nil] at h;exact h
 | n+1,a,b,hn,h=>by
  have hb:b≠[]:=by intro e;rw[e] at hn;cases hn
  rw[← List.dropLast_concat_getLast hb,← List.append_assoc] at h;exact yH n a b.dropLast (by rw[List.length_dropLast];omega) (aEb h).1
theorem xM:∀(r pre:List Opn),gD pre→((gB pre r (aG pre).1).2.2=0→gD (pre++r)∧gB pre r (aG pre).1=((aG (pre++r)).1,-1,0))∧(gD (pre++r)→(gB pre r (aG pre).1).2.2=0)
 | [],pre,h=>by
  rw[List.append_nil];exact⟨fun _=>⟨h,rfl⟩,fun _=>rfl⟩
 | o::r,pre,h=>by
  rw[gB];by_cases ha:(bF pre (aG pre).1 o).2.2=0
  ·rw[if_pos ha,yI h ha]
   have:=xM r (pre++[o]) (.snoc h ha)
   rwa [List.append_assoc,List.singleton_append] at this
  ·rw[if_neg ha]
   refine⟨fun k=>absurd k ha,fun k=>?_⟩;have h2:=yH r.length (pre++[o]) r rfl (by rw[List.append_assoc];exact k);exact absurd (aEb h2).2 ha
end Go.Proofs.YtdochkemaiokfaaGreat



namespace Go.Proofs.YtdochkemaiokfaaGreat
open Go.RowKit Go.Shelf
attribute [local go_sem] Oper.semAt_some
theorem c_88 {p:Prop} (h:p:=by
 rintro ll ⟨xi,⟨o0,o1,o2,o3,o4,o5,o6,o7,o8,o9,o10,o11⟩⟩ W K hs hK;dsimp only [Opn.agg]
 gi_wp2
 exact hK _ _ ((uX W).alloc _) ⟨W.heap.size,rfl,aO _ _⟩
):p:=h
theorem h_140 {p:Prop} (h:p:=by
 exact(show jV (W.setCell ⟨w.heap.size,0,none⟩ a) w.heap.size from cH k2 (by simpa using ha))
):p:=h
theorem h_155 {p:Prop} (h:p:=by
 exact uZ (fun X B LB n W a b c d=>qL l hwf lv w hv hlen X B LB n a b W c d)
):p:=h
def rH (R:Tr × Int × Int) (w:World) (e:Ending) (w':World):Prop:=∃ rv bv,e=.returned (.tuple #[.agg #[rv,bv],.int .i64 R.2.1,.int .i64 R.2.2])∧dF w' rv bv R.1∧aA w w'
def aBl (t:Tr):Prop:=cF t.brs∧t.roots.length≤1000000
theorem tF:aBl ⟨[],[]⟩:=⟨⟨by simp,fun i h=>absurd h b_54⟩,by simp⟩
theorem oJ {t:Tr} (h:aM t):aBl t:=aKb h
theorem iG (w:World):dF w (.slice none 0 0) (.slice none 0 0) ⟨[],[]⟩:=⟨SlI.nil w,[],SlB.nil w,rfl,fun i h=>absurd h b_54⟩
theorem kQ {pre:List (Int × Opn)} {x:Int × Opn} {t:Tr} (h:(bI pre t).2.2=0):bI (pre++[x]) t=if (aT (bI pre t).1 x.2).2=0 then((aT (bI pre t).1 x.2).1,-1,0) else(⟨[],[]⟩,x.1,(aT (bI pre t).1 x.2).2):=by
 rw[iJ _ _ _ h,bI];split
 ·rfl
 ·rfl
theorem oD:∀ {a b:List (Int × Opn)} {t:Tr},(bI a t).2.2≠0→bI (a++b) t=bI a t
 | [],_,_,h=>absurd rfl h
 | (i,o)::a,b,t,h=>by
  rw[List.cons_append,bI];rw[bI] at h ⊢;by_cases h0:(aT t o).2=0
  ·rw[if_pos h0] at h ⊢
   rw[if_pos h0];exact oD h
  ·rw[if_neg h0,if_neg h0]
structure aEe (w:World) (TB AT EB LB N:Nat):Prop where
 t:w.heap.size<TB
 a:TB<AT
 e:AT<EB
 l:EB<LB
 n:LB<N
structure aEd (w:World) (TB AT EB:Nat) (t:Tr) (W:World):Prop where
 g:aA w W
 res:W.heap[w.heap.size]? = some (.cells #[.slice none 0 0,.slice none 0 0] 43 (0,0))
 tr:∃ A n c B m d,W.heap[TB]? = some (.cells #[.slice A n c,.slice B m d] 43 (0,0))∧dF W (.slice A n c) (.slice B m d) t
 at_:Boxed W AT 3 (.int .i64 (-1))
 er:Boxed W EB 30 (.int .i64 0)
structure bBg (w:World) (AT EB:Nat) (i f:Int) (W:World):Prop where
 g:aA w W
 res:W.heap[w.heap.size]? = some (.cells #[.slice none 0 0,.slice none 0 0] 43 (0,0))
 at_:Boxed W AT 3 (.int .i64 i)
 er:Boxed W EB 30 (.int .i64 f)
section
variable {w W W':World} {TB AT EB LB N:Nat} {t t':Tr} {row:Option Nat} {i f:Int}
theorem bY {W W':World} {row:Option Nat} (hg:W.grownBy W' row) {X:Nat} {o:Obj} (h:W.heap[X]? = some o) (hr:∀ r,row=some r→r≠X):W'.heap[X]? = some o :=
 (hg.block X (Array.getElem?_eq_some_iff.1 h).1 (fun e=>hr X e.symm rfl)).trans h
theorem aEd.turn (h:aEd w TB AT EB t W) (hL:aEe w TB AT EB LB N) (hg:W.grownBy W' row) (hr:∀ r,row=some r→N≤r∧∀ o,W.heap[r]? = some o→o.isCells=false):aEd w TB AT EB t W':=by
 obtain⟨h1,h2,h3,h4,h5⟩:=hL;obtain⟨A,n,c,B,m,d,k1,k2⟩:=h.tr;exact⟨Below.grown h.g hg h.g.size (fun k e=>by have:=(hr k e).1;omega),bY hg h.res (fun r e=>by have:=(hr r e).1;omega),⟨A,n,c,B,m,d,bY hg k1 (fun r e=>by have:=(hr r e).1;omega),k2.turn ⟨row,hg,fun X e=>oF (hr X e).2⟩⟩,bY hg h.at_ (fun r e=>by have:=(hr r e).1;omega),bY hg h.er (fun r e=>by have:=(hr r e).1;omega)⟩
theorem aEd.grew (h:aEd w TB AT EB t W) (hL:aEe w TB AT EB LB N) (hg:aA W W'):aEd w TB AT EB t W':=h.turn hL (dA hg none) (fun r e=>by cases e)
theorem bBg.turn (h:bBg w AT EB i f W) (hL:aEe w TB AT EB LB N) (hg:W.grownBy W' row) (hr:∀ r,row=some r→N≤r):bBg w AT EB i f W':=by
 obtain⟨h1,h2,h3,h4,h5⟩:=hL;exact⟨Below.grown h.g hg h.g.size (fun k e=>by have:=hr k e;omega),bY hg h.res (fun r e=>by have:=hr r e;omega),bY hg h.at_ (fun r e=>by have:=hr r e;omega),bY hg h.er (fun r e=>by have:=hr r e;omega)⟩
theorem aEd.put (h:aEd w TB AT EB t W) (hL:aEe w TB AT EB LB N) {A B:Option Addr} {n c m d:Nat} (ht:dF W (.slice A n c) (.slice B m d) t'):aEd w TB AT EB t' ((W.setCell ⟨TB,0,none⟩ (.slice A n c)).setCell ⟨TB,1,none⟩ (.slice B m d)):=by
 obtain⟨h1,h2,h3,h4,h5⟩:=hL;obtain⟨A0,n0,c0,B0,m0,d0,k1,-⟩:=h.tr;have hX:jV W TB:=cH k1 b_54;have k2:=heap_setCell_same W TB 0 _ _ (.slice A n c) k1;have hX2:jV (W.setCell ⟨TB,0,none⟩ (.slice A n c)) TB:=cH k2 b_54;refine⟨(h.g.setCell (p:=⟨TB,0,none⟩) (by show w.heap.size≤TB;omega) _).setCell (p:=⟨TB,1,none⟩) (by show w.heap.size≤TB;omega) _,?_,⟨A,n,c,B,m,d,aTa k1 _ _,(ht.turn (dB.set hX _ _)).turn (dB.set hX2 _ _)⟩,?_,?_⟩
 ·rw[Below.heap_setCell _ _ _ _ (by show w.heap.size≠TB;omega),Below.heap_setCell _ _ _ _ (by show w.heap.size≠TB;omega)]
  exact h.res
 ·show(_:World).heap[AT]? = _
  rw[Below.heap_setCell _ _ _ _ (by show AT≠TB;omega),Below.heap_setCell _ _ _ _ (by show AT≠TB;omega)];exact h.at_
 ·show(_:World).heap[EB]? = _
  rw[Below.heap_setCell _ _ _ _ (by show EB≠TB;omega),Below.heap_setCell _ _ _ _ (by show EB≠TB;omega)];exact h.er
theorem aEd.stop (h:aEd w TB AT EB t W) (hL:aEe w TB AT EB LB N) (i f:Int):bBg w AT EB i f ((W.setCell ⟨AT,0,none⟩ (.int .i64 i)).setCell ⟨EB,0,none⟩ (.int .i64 f)):=by
 obtain⟨h1,h2,h3,h4,h5⟩:=hL;refine⟨(h.g.setCell (p:=⟨AT,0,none⟩) (by show w.heap.size≤AT;omega) _).setCell (p:=⟨EB,0,none⟩) (by show w.heap.size≤EB;omega) _,?_,?_,?_⟩
 ·rw[Below.heap_setCell _ _ _ _ (by show w.heap.size≠EB;omega),Below.heap_setCell _ _ _ _ (by show w.heap.size≠AT;omega)]
  exact h.res
 ·show(_:World).heap[AT]? = _
  rw[Below.heap_setCell _ _ _ _ (by show AT≠EB;omega)];exact h.at_.set _
 ·exact Boxed.set _ (by
   show(_:World).heap[EB]? = _;rw[Below.heap_setCell _ _ _ _ (by show EB≠AT;omega)]
   exact h.er)
theorem aEd.kp2 (h:aEd w TB AT EB t W) (hL:aEe w TB AT EB LB N) (x y:Value):KpS w.heap.size N (fun k=>k=TB∨k=AT∨k=EB) W ((W.setCell ⟨TB,0,none⟩ x).setCell ⟨TB,1,none⟩ y):=by
 obtain⟨h1,h2,h3,h4,h5⟩:=hL;obtain⟨A0,n0,c0,B0,m0,d0,k1,-⟩:=h.tr;exact(KpS.set _ b_53 (.inl (.inl rfl)) ⟨_,_,_,k1⟩).trans (KpS.set _ b_53 (.inl (.inl rfl)) ⟨_,_,_,heap_setCell_same W TB 0 _ _ x k1⟩)
end
theorem aKx {w W:World} {D:Nat} {a b:Value} {t:Tr} (hres:W.heap[w.heap.size]? = some (.cells #[.slice none 0 0,.slice none 0 0] 43 (0,0))) (hg:aA w W) (hD:w.heap.size≤D) (hK:W.heap[D]? = some (.deferred (some []))) (ha:(∀ q n,a≠.int q n)∧∀ s,a≠.string s) (ht:dF W a b t) :
  (((W.setCell ⟨w.heap.size,0,none⟩ a).setCell ⟨w.heap.size,1,none⟩ b).putObj D (.deferred none)).cell? ⟨w.heap.size,0,none⟩=some a∧(((W.setCell ⟨w.heap.size,0,none⟩ a).setCell ⟨w.heap.size,1,none⟩ b).putObj D (.deferred none)).cell? ⟨w.heap.size,1,none⟩=some b∧dF (((W.setCell ⟨w.heap.size,0,none⟩ a).setCell ⟨w.heap.size,1,none⟩ b).putObj D (.deferred none)) a b t∧aA w (((W.setCell ⟨w.heap.size,0,none⟩ a).setCell ⟨w.heap.size,1,none⟩ b).putObj D (.deferred none)):=by
 have hne:w.heap.size≠D:=fun e=>by rw[← e,hres] at hK;cases hK
 have hX:jV W w.heap.size:=cH hres b_54;have k2:=heap_setCell_same W w.heap.size 0 _ _ a hres;have hX2:=h_140
 have hK2:((W.setCell ⟨w.heap.size,0,none⟩ a).setCell ⟨w.heap.size,1,none⟩ b).heap[D]? = some (.deferred (some [])):=by
  rw[Below.heap_setCell _ _ _ _ (fun e=>hne e.symm),Below.heap_setCell _ _ _ _ (fun e=>hne e.symm)];exact hK
 have h2:=aTa hres a b;have gP:=grownBy_putObj' ((W.setCell ⟨w.heap.size,0,none⟩ a).setCell ⟨w.heap.size,1,none⟩ b) D (.deferred none);have h3:=bY gP h2 (fun r e k=>by cases e;exact hne k.symm);refine⟨aC h3 rfl,aC h3 rfl,((ht.turn (dB.set hX _ _)).turn (dB.set hX2 _ _)).turn ⟨_,gP,fun X e=>by cases e;exact oF fun o ho=>by rw[hK2] at ho;cases ho;rfl⟩,?_⟩;exact Below.grown ((hg.setCell (p:=⟨w.heap.size,0,none⟩) (Nat.le_refl _) _).setCell (p:=⟨w.heap.size,1,none⟩) (Nat.le_refl _) _) gP (by simpa using hg.size) (fun k e=>by cases e;exact hD)
theorem aFl {W W':World} (g:aA W W'):KeepsOthers W W':=⟨g.size,fun k o ho _=>by rw[g.block k (Array.getElem?_eq_some_iff.1 ho).1];exact ho⟩
def bEo (w:World) (TB AT EB LB:Nat) (lv:Value) (x:Int × Opn) (a:Act) (W:World):Prop:=∃ OB,a={ tmps:=#[lv,undef,.pointer (some ⟨w.heap.size,0,none⟩),.int .i64 0,.int .i64 0,.pointer (some ⟨TB,0,none⟩),.pointer (some ⟨AT,0,none⟩),.pointer (some ⟨EB,0,none⟩),.int .i64 x.1,.pointer (some ⟨OB,0,none⟩),undef,undef,lv,.func (.func 69) #[] #[.pointer (some ⟨LB,0,none⟩)],.int .i64 x.1,x.2.agg,undef,undef,undef,undef,undef,undef,undef,undef,undef,undef,undef,undef,undef,undef,undef,undef,undef,undef],defers:=[] } ∧
 W.heap[OB]? = some (.cells x.2.cells.toArray 26 (0,0))
theorem aJh (l:List Opn) (hwf:∀ i (h:i<l.length),WfO l[i]) (lv:Value) (w:World) (hE:Env w) (hv:SlO w lv l) (hlen:l.length≤1000000):Calls Tryz.prog 49 #[lv] w (rH (aG l) w):=by
 have KA:=uZ (fun(t:Tr) (o:Opn) rv bv W (hW:aA w W) (ht:dF W rv bv t) (hf:aBl t) (hk:(Lit.int .i64 o.kind).wf=true)=>aTe t o rv bv W (hE.mono hW) ht.1 ht.2 hf.1 hf.2 hk);have KC:=uZ (fun A n c W=>sE A n c W);have KS:=h_155
 have HWF:=uZ (fun p (h:p∈cN l)=>(show(Lit.int .i64 p.2.kind).wf=true from by
  obtain⟨i,hi,e⟩:=List.mem_iff_getElem.1 (show p.2∈l from by rw[fU] at h;exact aMs (List.mem_filter.1 h).1);rw[← e]
  exact(hwf i hi).kind))
 obtain⟨A,c,rfl,-⟩:=hv.open_;have hR:bI (cN l) ⟨[],[]⟩=aG l:=rfl;generalize aG l=RR at hR ⊢;generalize cN l=CI at KS HWF hR;have HR:=uZ hR;clear hE hv hwf hR;refine(callsIn_wide (n:=9)).1 ?_;refine callsIn_of_wp_marks Tryz.func49 rfl trivial ?_ rfl;simp only [Tryz.ntmps49,List.size_toArray,List.length_cons,List.length_nil,Nat.reduceAdd,Nat.reduceSub,Array.replicate_succ,Array.replicate_zero,List.push_toArray,List.append_toArray,List.nil_append,List.cons_append];refine wpIn_wide.2 ?_;go_wp2_with fail
 go_step3
 go_wp2_with fail
 go_step3
 go_wp2_with fail;refine(KC.out _ _ _ _).mono ?_;rintro e wl ⟨rfl,hwl⟩;dsimp only;go_wp2_with fail;refine(wpIn_wide (n:=9)).1 ?_
 have hI0:aEd w (w.heap.size+1) (w.heap.size+1+1) (w.heap.size+1+1+1) ⟨[],[]⟩ wl:=by
  have e0:=aO w (.cells #[.slice none 0 0,.slice none 0 0] 43);generalize hA:w.alloc (.cells #[.slice none 0 0,.slice none 0 0] 43)=W1 at e0 hwl;have s1:W1.heap.size=w.heap.size+1:=by rw[← hA,World.size_alloc]
  have g1:aA w W1:=by rw[← hA];exact(uX w).alloc _
  have e1:=aO W1 (.cells #[.slice none 0 0,.slice none 0 0] 43);generalize hB:W1.alloc (.cells #[.slice none 0 0,.slice none 0 0] 43)=W2 at e1 hwl;have s2:W2.heap.size=w.heap.size+1+1:=by rw[← hB,World.size_alloc,s1]
  have g2:aA W1 W2:=by rw[← hB];exact(uX W1).alloc _
  have e2:=aO W2 (.cells #[.int .i64 (-1)] 3);generalize hC:W2.alloc (.cells #[.int .i64 (-1)] 3)=W3 at e2 hwl;have s3:W3.heap.size=w.heap.size+1+1+1:=by rw[← hC,World.size_alloc,s2]
  have g3:aA W2 W3:=by rw[← hC];exact(uX W2).alloc _
  have e3:=aO W3 (.cells #[.int .i64 0] 30);generalize hD:W3.alloc (.cells #[.int .i64 0] 30)=W4 at e3 hwl;have g4:aA W3 W4:=by rw[← hD];exact(uX W3).alloc _
  have g5:aA W4 wl:=by rw[← hwl];exact(uX W4).alloc _
  rw[s1] at e1;rw[s2] at e2;rw[s3] at e3;exact⟨(((g1.trans g2).trans g3).trans g4).trans g5,aD (((g2.trans g3).trans g4).trans g5) e0,⟨none,0,0,none,0,0,aD ((g3.trans g4).trans g5) e1,iG _⟩,aD (g4.trans g5) e2,aD g5 e3⟩
 have hsz:wl.heap.size=w.heap.size+1+1+1+1+1:=by rw[← hwl];simp only [World.size_alloc]
 have hLx:Boxed wl (w.heap.size+1+1+1+1) 22 (.slice A l.length c):=by
  have:=Boxed.new ((((w.alloc (.cells #[.slice none 0 0,.slice none 0 0] 43)).alloc (.cells #[.slice none 0 0,.slice none 0 0] 43)).alloc (.cells #[.int .i64 (-1)] 3)).alloc (.cells #[.int .i64 0] 30)) 22 (.slice A l.length c);rw[hwl] at this;simpa only [World.size_alloc] using this
 simp only [World.size_alloc];clear hwl;have hAt:aEe w (w.heap.size+1) (w.heap.size+1+1) (w.heap.size+1+1+1) (w.heap.size+1+1+1+1) wl.heap.size:=⟨by omega,by omega,by omega,by omega,by omega⟩
 clear hsz;generalize w.heap.size+1+1+1+1=LB at hLx hAt ⊢;generalize w.heap.size+1+1+1=EB at hI0 hAt ⊢;generalize w.heap.size+1+1=AT at hI0 hAt ⊢;generalize w.heap.size+1=TB at hI0 hAt ⊢;have HAT:=uZ hAt;have hst:=KS.out (fun k=>k=TB∨k=AT∨k=EB) wl.heap.size LB 8 wl hAt.n (by have:=hAt.t;have:=hAt.a;have:=hAt.e;have:=hAt.l;omega) hI0.g hLx;have HI0:=uZ hI0;have HN:=uZ (show w.heap.size≤wl.heap.size from hI0.g.size);clear hI0 hLx hAt KS KC
 refine nV rfl b_53 (gf:=69) (lb:=#[.pointer (some ⟨LB,0,none⟩)]) rfl trivial (enters_of Tryz.func69 (by kernel_rfl) rfl) HN.out hst (fun _=>rfl)
  (fun pre W=>(bI pre ⟨[],[]⟩).2.2=0∧aBl (bI pre ⟨[],[]⟩).1∧aEd w TB AT EB (bI pre ⟨[],[]⟩).1 W)
  (fun c pre W=>c=.exit 0∧∃ i f,f≠0∧bI pre ⟨[],[]⟩=(⟨[],[]⟩,i,f)∧bBg w AT EB i f W)
  (fun _ _ _ _ hs hg hr=>⟨hs.1,hs.2.1,hs.2.2.turn HAT.out hg hr⟩)
  (fun _ _ _ _ _ hs hg hr=>⟨hs.1,hs.2.imp fun i h=>h.imp fun f h=>⟨h.1,h.2.1,h.2.2.turn HAT.out hg (fun r e=>(hr r e).1)⟩⟩)
  ⟨rfl,tF,HI0.out⟩
  (bEo w TB AT EB LB (.slice A l.length c))
  (fun x a' _ W W' row h hg hr=>by
   obtain⟨OB,h1,h2⟩:=h
   exact⟨OB,h1,bY hg h2 (fun r e k=>by have:=(hr r e).2 _ (by rw[k];exact h2);cases this)⟩)
  ?assign ?body ?done ?stop
 case assign =>
  exact c_88
 case body =>
  rintro ll pre ⟨xi,o⟩ a' W ⟨hz,hf,hB⟩ ⟨OB,rfl,hO⟩ hSp;obtain⟨A1,n1,c1,B1,m1,d1,ht,hT⟩:=hB.tr;have hw:=HWF.out (xi,o) (hSp.subset b_54);have t0:W.cell? ⟨TB,0,none⟩=some (.slice A1 n1 c1):=aC ht rfl;have t1:W.cell? ⟨TB,1,none⟩=some (.slice B1 m1 d1):=aC ht rfl;have hk:=KA.out _ o _ _ W hB.g hT hf hw;have hs:=kQ (x:=(xi,o)) hz;have hY:=uZ (fun h=>oJ (rF (t:=(bI pre ⟨[],[]⟩).1) (o:=o) h).2);unfold bU at hk;dsimp only at hs hw;generalize aT (bI pre ⟨[],[]⟩).1 o=R at hk hs hY;obtain⟨T,n⟩:=R;have HB:=uZ hB;have HWS:=uZ hB.g.size;generalize hRES:bI (pre++[(xi,o)]) ⟨[],[]⟩=RES at hs;obtain⟨o0,o1,o2,o3,o4,o5,o6,o7,o8,o9,o10,o11⟩:=o;obtain⟨q0,q1,q2,q3,q4,q5,q6,q7,q8,q9,q10,q11⟩:=vS hO;unfold Opn.agg at hk;dsimp only [Opn.agg] at hk hs hY ⊢;have HK:=uZ hk;have HS:=uZ hs;have HRES:=uZ hRES;clear hk hs hB hT ht hO hw hz hf hst HI0 HWF KA hSp hRES
  gi_wp2_with fail
  refine⟨trivial,(callsIn_wide.2 HK.out).mono ?_⟩;rintro e w3 ⟨rv,bv,rfl,hT3,g3⟩;obtain⟨A2,c2,rfl,-⟩:=SlI.open_ hT3.1;obtain⟨B2,d2,rfl,-⟩:=bQ.open_ hT3.2;have HT4:=uZ (hT3.mono ((uX w3).alloc (.cells #[.slice A2 T.roots.length c2,.slice B2 T.brs.length d2] 43)));have HB4:=uZ (HB.out.grew HAT.out (g3.alloc (.cells #[.slice A2 T.roots.length c2,.slice B2 T.brs.length d2] 43)));have HG4:=uZ (g3.alloc (.cells #[.slice A2 T.roots.length c2,.slice B2 T.brs.length d2] 43));obtain⟨A3,n3,c3,B3,m3,d3,ht4,-⟩:=HB4.out.tr;have t0:=aC (i:=0) (x:=.slice A3 n3 c3) ht4 rfl;have t1:=aC (i:=1) (x:=.slice B3 m3 d3) ht4 rfl;have f0:=aS (i:=0) ht4;have f1:=aS (i:=1) ht4;have a0:=HB4.out.at_.cell;have b0:=HB4.out.at_.frozen;have a1:=HB4.out.er.cell;have b1:=HB4.out.er.frozen;clear hT3 g3 ht4 HK q0 q1 q2 q3 q4 q5 q6 q7 q8 q9 q10 q11 HB;dsimp only;by_cases hn:n=0
  ·subst hn
   have hs:=HS.out;rw[if_pos rfl] at hs;have HS2:=uZ hs;have HY:=uZ (hY.out rfl);clear hs HS hY
   gi_wp2
   refine⟨(aFl HG4.out).trans ((KeepsOthers.setCell _ _ _).trans (KeepsOthers.setCell _ _ _)),(KpS.grew HWS.out HG4.out).trans (HB4.out.kp2 HAT.out _ _),?_⟩;dsimp only;rw[HRES.out,HS2.out];exact⟨rfl,HY.out,HB4.out.put HAT.out HT4.out⟩
  ·have hb:(n == 0)=false:=by simpa using hn
   have hs:=HS.out;rw[if_neg hn] at hs;have HS2:=uZ hs;have HNN:=uZ hn;have hne:Boxed ((w3.alloc (.cells #[.slice A2 T.roots.length c2,.slice B2 T.brs.length d2] 43)).setCell ⟨AT,0,none⟩ (.int .i64 xi)) EB 30 (.int .i64 0):=HB4.out.er.kept (dO _ AT 0 _) (fun e=>by cases e;have:=HAT.out.e;omega);have a2:=hne.cell;have b2:=hne.frozen;clear hs HS hY hn hne
   gi_wp2
   refine⟨(aFl HG4.out).trans ((KeepsOthers.setCell _ _ _).trans (KeepsOthers.setCell _ _ _)),rfl,xi,n,HNN.out,?_,HB4.out.stop HAT.out _ _⟩;rw[HRES.out,HS2.out]
 case done =>
  rintro D xs W hD rfl ⟨hz,hf,hB⟩ hK;obtain⟨A1,n1,c1,B1,m1,d1,ht,hT⟩:=hB.tr;have h2:=jH _ _ hz;have hr:=HR.out;obtain⟨RT,ri,rf⟩:=RR;rw[hr] at h2 hT;dsimp only at h2 hT;obtain⟨rfl,rfl⟩:=Prod.mk.inj h2;have FIN:=uZ (aKx hB.res hB.g (by have:=HN.out;omega) hK ⟨by simp,by simp⟩ hT);have t0:W.cell? ⟨TB,0,none⟩=some (.slice A1 n1 c1):=aC ht rfl;have t1:W.cell? ⟨TB,1,none⟩=some (.slice B1 m1 d1):=aC ht rfl;have r0:W.cell? ⟨w.heap.size,0,none⟩=some (.slice none 0 0):=aC hB.res rfl;have r1:W.cell? ⟨w.heap.size,1,none⟩=some (.slice none 0 0):=aC hB.res rfl;have f0:W.frozen? ⟨w.heap.size,0,none⟩=false:=aS hB.res;have f1:W.frozen? ⟨w.heap.size,1,none⟩=false:=aS hB.res;have e0:=hB.er.cell;have HK:=uZ hK;clear hz hf hB hK ht hT h2 hr HR hst HI0 HWF KA;go_wp2;rw[Exit.noGoto_ret];refine⟨by simp,.inl ⟨_,_,rfl,run_takeDeferred (((KeepsOthers.setCell _ _ _).trans (KeepsOthers.setCell _ _ _)).same _ _ HK.out rfl),?_⟩⟩;obtain⟨z0,z1,z2,z3⟩:=FIN.out;exact⟨.tuple #[.agg #[.slice A1 n1 c1,.slice B1 m1 d1],.int .i64 (-1),.int .i64 0],by simp[results,Tryz.results49,go_sem,z0,z1],_,_,rfl,z2,z3⟩
 case stop =>
  rintro D c pre W hD ⟨suf,hSp⟩ ⟨rfl,i,f,hf,hp,hX⟩ hK;have hr:=HR.out;rw[← hSp,oD (by rw[hp];exact hf),hp] at hr;subst hr;have fin:=aKx (W:=W.drew) (t:=⟨[],[]⟩) (a:=.slice none 0 0) (b:=.slice none 0 0) hX.res hX.g.drew (by have:=HN.out;omega) hK ⟨by simp,by simp⟩ (iG _);rw[show(W.drew.setCell ⟨w.heap.size,0,none⟩ (.slice none 0 0)).setCell ⟨w.heap.size,1,none⟩ (.slice none 0 0)=((W.setCell ⟨w.heap.size,0,none⟩ (.slice none 0 0)).setCell ⟨w.heap.size,1,none⟩ (.slice none 0 0)).drew from rfl] at fin;have FIN:=uZ fin;clear fin;have r0:W.cell? ⟨w.heap.size,0,none⟩=some (.slice none 0 0):=aC hX.res rfl;have r1:W.cell? ⟨w.heap.size,1,none⟩=some (.slice none 0 0):=aC hX.res rfl;have f0:W.frozen? ⟨w.heap.size,0,none⟩=false:=aS hX.res;have f1:W.frozen? ⟨w.heap.size,1,none⟩=false:=aS hX.res;have a0:=hX.at_.cell;have e0:=hX.er.cell;have hb:(f != 0)=true:=by simpa using hf
  have hn1:AT≠w.heap.size:=by have:=HAT.out.t;have:=HAT.out.a;omega
  have hn2:EB≠w.heap.size:=by have:=HAT.out.t;have:=HAT.out.a;have:=HAT.out.e;omega
  have a1:((W.setCell ⟨w.heap.size,0,none⟩ (.slice none 0 0)).setCell ⟨w.heap.size,1,none⟩ (.slice none 0 0)).cell? ⟨AT,0,none⟩=some (.int .i64 i):=by
   rw[uV _ _ _ _ b_54,uV _ _ _ _ b_54];exact a0
  have e1:((W.setCell ⟨w.heap.size,0,none⟩ (.slice none 0 0)).setCell ⟨w.heap.size,1,none⟩ (.slice none 0 0)).cell? ⟨EB,0,none⟩=some (.int .i64 f):=by
   rw[uV _ _ _ _ b_54,uV _ _ _ _ b_54];exact e0
  clear hn1 hn2;have HK:=uZ hK;clear hf hp hX hK HR hst HI0 HWF KA hSp
  gi_wp2_with fail
  go_wp2_with fail
  go_region
  all_goals go_wp2
  all_goals rw[Exit.noGoto_ret]
  all_goals
   refine⟨by simp,.inl ⟨_,_,rfl,run_takeDeferred (((KeepsOthers.setCell _ _ _).trans (KeepsOthers.setCell _ _ _)).same _ _ HK.out rfl),?_⟩⟩;obtain⟨z0,z1,z2,z3⟩:=FIN.out;exact⟨.tuple #[.agg #[.slice none 0 0,.slice none 0 0],.int .i64 i,.int .i64 f],by simp[results,Tryz.results49,go_sem,z0,z1],_,_,rfl,z2,z3⟩
end Go.Proofs.YtdochkemaiokfaaGreat
namespace Go.Proofs.YtdochkemaiokfaaGreat
open Go.RowKit
theorem vH (l:List Opn) (p:Opn→Bool) (g:Nat) (lb:Array Value) (eg:∀ args w,(callFunc g args).run Tryz.prog w=.ok (.enter g args) w) (v:Value) (w:World) (hv:SlO w v l)
  (hp:∀ W x,aA w W→x∈l→Calls Tryz.prog g (#[x.agg]++lb) W fun e w'=>e=.returned (.bool (p x))∧aA W w') :
  Calls Tryz.prog 59 #[v,.func (.func g) #[] lb] w fun e w'=>e=.returned (.int .i64 (lL p l))∧aA w w':=by
 obtain⟨A,c,rfl,hlc,hc,hr⟩:=hv.open_;unfold maxLen at hc;have HR:=uZ hr;have HP:=uZ hp;clear hr hp hv;go_enter Tryz.func59,Tryz.ntmps59;go_wp2;go_loopg [5,8] l.length (fun gg _ s8 wr=>∃ kk:Nat,kk≤l.length∧l.length-kk≤gg∧s8=.int .i64 kk∧Aside (aA w wr)∧Aside (∀ i (hi:i<l.length),i<kk→p l[i]=false))
 case atStart=>exact⟨0,Nat.zero_le _,by omega,rfl,uX w,fun i hi h=>absurd h (Nat.not_lt_zero _)⟩
 case round =>
  obtain⟨kk,hkk,hg,rfl,BW,M⟩:=hrel;by_cases hlt:kk<l.length
  ·obtain⟨b,off,rfl,hb,hcell⟩:=HR.out b_53
   obtain⟨c0,c1,c2,c3,c4,c5,c6,c7,c8,c9,c10,c11⟩:=hcell wr BW.out kk hlt;have hcall:=h_196;have hltz:=h_201;clear hcell;generalize hy:l[kk]=y at c0 c1 c2 c3 c4 c5 c6 c7 c8 c9 c10 c11 hcall;have B:Aside (l[kk]=y):=hy;clear hy;unfold Opn.agg at hcall;exact c_44
  ·have hltz:¬ (kk:Int)<(l.length:Int):=by omega
   exact c_113
theorem vI (l:List Cm) (p:Cm→Bool) (g:Nat) (lb:Array Value) (eg:∀ args w,(callFunc g args).run Tryz.prog w=.ok (.enter g args) w) (v:Value) (w:World) (hv:SlC w v l)
  (hp:∀ W x,aA w W→x∈l→Calls Tryz.prog g (#[x.agg]++lb) W fun e w'=>e=.returned (.bool (p x))∧aA W w') :
  Calls Tryz.prog 61 #[v,.func (.func g) #[] lb] w fun e w'=>e=.returned (.int .i64 (lL p l))∧aA w w':=by
 obtain⟨A,c,rfl,hlc,hc,hr⟩:=hv.open_;unfold maxLen at hc;have HR:=uZ hr;have HP:=uZ hp;clear hr hp hv;go_enter Tryz.func61,Tryz.ntmps61;go_wp2;go_loopg [5,8] l.length (fun gg _ s8 wr=>∃ kk:Nat,kk≤l.length∧l.length-kk≤gg∧s8=.int .i64 kk∧Aside (aA w wr)∧Aside (∀ i (hi:i<l.length),i<kk→p l[i]=false))
 case atStart=>exact⟨0,Nat.zero_le _,by omega,rfl,uX w,fun i hi h=>absurd h (Nat.not_lt_zero _)⟩
 case round =>
  obtain⟨kk,hkk,hg,rfl,BW,M⟩:=hrel;by_cases hlt:kk<l.length
  ·obtain⟨b,off,rfl,hb,hcell⟩:=HR.out b_53
   obtain⟨c0,c1,c2,c3⟩:=hcell wr BW.out kk hlt;have hcall:=h_196;have hltz:=h_201;clear hcell;generalize hy:l[kk]=y at c0 c1 c2 c3 hcall;have B:Aside (l[kk]=y):=hy;clear hy;unfold Cm.agg at hcall;exact c_44
  ·have hltz:¬ (kk:Int)<(l.length:Int):=by omega
   exact c_113
theorem aFo {l:List Opn} (h:l.Pairwise fun a b=>a.id<b.id) {p q:Opn} (hp:p∈l) (hq:q∈l) (he:p.id=q.id):p=q:=by
 induction l with
 | nil=>cases hp
 | cons x r ih =>
  obtain⟨h1,h2⟩:=List.pairwise_cons.1 h;rcases List.mem_cons.1 hp with rfl|hp1
  ·rcases List.mem_cons.1 hq with rfl|hq1
   ·rfl
   ·have:=h1 q hq1;omega
  ·rcases List.mem_cons.1 hq with rfl|hq1
   ·have:=h1 p hp1;omega
   ·exact ih h2 hp1 hq1
theorem aVw (l:List Opn):(vJ l).map Prod.snd=l:=by
 unfold vJ;rw[List.map_snd_zip b_54]
theorem aIh (l:List Opn):(cN l).map Prod.snd=l.filter (cE l):=by
 have h:(cN l).map Prod.snd=((vJ l).map Prod.snd).filter (cE l):=by
  rw[fU,List.filter_map];rfl
 rw[h,aVw]
theorem aJk {l:List Br} {id:Int} (h:id=0∨∃ b∈l,b.id=id):qQ l id=0:=by
 unfold qQ;by_cases h0:id=0
 ·rw[if_pos h0]
 ·rw[if_neg h0]
  obtain⟨b,hb,e⟩:=h.resolve_left h0;unfold nO
  have:(aE l id).isSome=true:=by
   cases hf:aE l id with
   | none=>exact absurd e ((fE id).1 hf b hb)
   | some _=>rfl
  simp[this]
theorem dP {t:Tr} (h:aM t) {id:Int} (hi:id=0∨∃ b∈t.brs,b.id=id):eC t id=(bA t id,0):=by
 unfold eC;rw[if_pos h,if_pos (aJk hi)]
end Go.Proofs.YtdochkemaiokfaaGreat


