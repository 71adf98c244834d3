/- Lemmas on what the functions of the program and of the library compute: PlainUh, PlainUi, UnD, UnE, UnC0, Shelf4, SortG, SortC, SlU. The conditions stand at each. -/
import Derived.Test.YtdochkemaiokfaaGreatQ29
import Derived.Test.YtdochkemaiokfaaGreatQ2
import Derived.Test.YtdochkemaiokfaaGreatQ8
import Derived.Test.YtdochkemaiokfaaGreatQ16
import Derived.Shelf.Small.Bits
import Derived.Shelf.Small.Strs
import Derived.Shelf.Small.Wraps
import Derived.Shelf.Strings.Search3
import Derived.Shelf.LaysM
import Derived.Shelf.Strings.Shaped
import Derived.Shelf.Sort.Plain
import Derived.Shelf.Strings.FuncGrows
import Derived.Shelf.Slices.Reverse
import Derived.Ground.Names2Prog
import Derived.Shelf.Slices.SearchI
import Derived.Shelf.Slices.In.SortNone
import Derived.Test.YtdochkemaiokfaaGreatProg
import Derived.Shelf.SlGeneric
import Derived.Shelf.SlSortCmp.WholeK
import Derived.Ground.SlsfProg
import Derived.Test.YtdochkemaiokfaaGreatQ1
import Derived.Lib.LazyBuf
import Derived.Test.YtdochkemaiokfaaGreatQ10
import Derived.Test.YtdochkemaiokfaaGreatQ3
set_option maxHeartbeats 16000000
set_option maxRecDepth 100000
set_option linter.all false
namespace Go.Proofs.YtdochkemaiokfaaGreat
open Go.RowKit
theorem c_98 {p:Prop} (h:p:=by
 rw[dH];split
 ·exact h
 ·intro b hb
  obtain⟨c,hc,rfl⟩:=List.mem_map.1 hb;have:=h c hc;unfold jD;split
  ·exact this
  ·exact this
):p:=h
def ImM (P:Int→ByteArray→Prop) (l:List Br):Prop:=∀ b∈l,P b.id b.mark
theorem wF {P:Int→ByteArray→Prop} {t:Tr} (h:ImM P t.brs) (p:Int) (ks:List Int):ImM P (fW t p ks).brs:=by
 exact c_98
theorem aBw {P:Int→ByteArray→Prop} {t:Tr} (h:ImM P t.brs) (m:Int) (f:Br→Br) (hf:∀ b,b.id=m→P b.id b.mark→P (f b).id (f b).mark):ImM P (jX t m f).brs:=by
 intro b hb;obtain⟨c,hc,rfl⟩:=List.mem_map.1 hb;have:=h c hc;split
 ·rename_i e
  exact hf c e this
 ·exact this
theorem aVg {P:Int→ByteArray→Prop} {t:Tr} {o:Opn} (h:ImM P t.brs) (h1:o.kind=1→P o.unit o.mark) (h4:o.kind≠1→o.kind≠2→o.kind≠5→o.kind≠3→(∃ c∈t.brs,c.id=o.unit)→P o.unit o.mark):ImM P (oG t o).brs:=by
 unfold oG;split
 ·rename_i e1
  intro b hb;unfold fF at hb;rcases (dU _ _ _).1 hb with rfl|hb
  ·exact h1 e1
  ·exact wF h _ _ b hb
 ·rename_i e1
  split
  ·exact h
  ·rename_i u hu
   split
   ·unfold jM
    exact aBw (wF (wF h _ _) _ _) _ _ fun b _ hb=>hb
   ·rename_i e2
    split
    ·intro b hb
     unfold fJ at hb;exact wF h _ _ b (List.mem_filter.1 hb).1
    ·rename_i e5
     split
     ·exact aBw h _ _ fun b _ hb=>hb
     ·rename_i e3
      exact aBw h _ _ fun b e _=>by
       show P b.id o.mark;rw[e];exact h4 e1 e2 e5 e3 ⟨u,(bE hu).1,(bE hu).2⟩
theorem uN (I:Tr→Prop):∀(a:List (Int × Opn)) (t:Tr),I t→(∀ p∈a,∀ t,I t→(aT t p.2).2=0→I (aT t p.2).1)→(bI a t).2.2=0→I (bI a t).1
 | [],_,h,_,_=>h
 | (i,o)::a,t,h,hs,hz=>by
  rw[bI] at hz ⊢;by_cases h0:(aT t o).2=0
  ·rw[if_pos h0] at hz ⊢
   exact uN I a _ (hs _ List.mem_cons_self t h h0) (fun p hp=>hs p (List.mem_cons_of_mem _ hp)) hz
  ·rw[if_neg h0] at hz
   exact absurd hz h0
theorem aNm {l:List Opn} {p:Int × Opn} (h:p∈cN l):p.2∈l∧cE l p.2=true:=by
 rw[fU] at h;obtain⟨h1,h2⟩:=List.mem_filter.1 h;exact⟨aMs h1,h2⟩
theorem qK {l:List Opn} {o:Opn} (h:eX l o=0):(o.kind=1→sB (aW l) o.came=0)∧(cJ o && qU l o)=false∧¬ (o.kind=5∧(aW l).any (fun x=>x.unit == o.unit && x.acc != 0)=true):=by
 unfold eX at h;split at h
 ·cases h
 ·split at h
  ·cases h
  ·split at h
   ·cases h
   ·split at h
    ·rename_i h4
     exact absurd h h4.2
    ·rename_i h4
     split at h
     ·cases h
     ·rename_i h5
      split at h
      ·cases h
      ·rename_i h6
       refine⟨fun hk=>?_,by simpa using h5,h6⟩;by_cases hz:sB (aW l) o.came=0
       ·exact hz
       ·exact absurd ⟨hk,hz⟩ h4
theorem qA {l:List Opn} {m:ByteArray} {u:Int} (h:dS l m=some u):∃ x∈l,cJ x=true∧x.mark=m∧x.unit=u:=by
 unfold dS at h;rw[Option.map_eq_some_iff] at h;obtain⟨x,hx,rfl⟩:=h;have h1:=List.mem_of_find?_eq_some hx;have h2:=List.find?_some hx;simp only [Bool.and_eq_true,decide_eq_true_eq] at h2;exact⟨x,List.mem_reverse.1 h1,h2.1,h2.2,rfl⟩
theorem aHi {l:List Opn} {m:ByteArray} (h:dS l m=none):∀ x∈l,cJ x=true→x.mark≠m:=by
 unfold dS at h;rw[Option.map_eq_none_iff,List.find?_eq_none] at h;intro x hx hm e;refine h x (List.mem_reverse.2 hx) ?_;rw[hm,decide_eq_true e];rfl
theorem aQw {l:List Opn} (h:gD l):∀ x∈l,∀ y∈l,cJ x=true→cJ y=true→x.mark=y.mark→x.unit=y.unit:=by
 induction h with
 | nil=>intro x hx;cases hx
 | @snoc l o h ha ih =>
  obtain⟨-,hm,-⟩:=qK (gL ha)
  have key:∀ x∈l,cJ x=true→cJ o=true→x.mark=o.mark→x.unit=o.unit:=by
   intro x hx h1 h2 he;rw[h2,Bool.true_and] at hm;unfold qU at hm
   cases hw:dS l o.mark with
   | none=>exact absurd he (aHi hw x hx h1)
   | some u =>
    rw[hw] at hm;obtain⟨y,hy,h3,h4,h5⟩:=qA hw;have hu:u=o.unit:=by simpa using hm
    rw[ih x hx y hy h1 h3 (by rw[he,h4]),h5,hu]
  intro x hx y hy h1 h2 he;rcases List.mem_append.1 hx with hx1|hx1
  ·rcases List.mem_append.1 hy with hy1|hy1
   ·exact ih x hx1 y hy1 h1 h2 he
   ·obtain rfl:=List.mem_singleton.1 hy1
    exact key x hx1 h1 h2 he
  ·obtain rfl:=List.mem_singleton.1 hx1
   rcases List.mem_append.1 hy with hy1|hy1
   ·exact(key y hy1 h2 h1 he.symm).symm
   ·obtain rfl:=List.mem_singleton.1 hy1
    rfl
/- The evidence. -/
theorem mA (c x:Cm):∀ l:List Cm,x∈jR c l↔x=c∨x∈l
 | []=>by simp[jR]
 | y::r=>by
  have ih:=mA c x r;unfold jR;split
  ·rw[List.mem_cons,ih,List.mem_cons]
   constructor
   ·rintro (h|h|h)
    ·exact .inr (.inl h)
    ·exact .inl h
    ·exact .inr (.inr h)
   ·rintro (h|h|h)
    ·exact .inr (.inl h)
    ·exact .inl h
    ·exact .inr (.inr h)
  ·rw[List.mem_cons]
theorem sX (c:Cm):∀ l:List Cm,(jR c l).length=l.length+1
 | []=>rfl
 | y::r=>by
  unfold jR;split
  ·rw[List.length_cons,sX c r,List.length_cons]
  ·rfl
theorem gY (l:List Opn) (o:Opn):aW (l++[o])=if o.kind=1 then jR o.came (aW l) else aW l:=by
 unfold aW;rw[List.filter_append];by_cases h:o.kind=1
 ·rw[if_pos h,List.filter_cons_of_pos b_49,List.filter_nil,List.foldl_append]
  rfl
 ·rw[if_neg h,List.filter_cons_of_neg b_49,List.filter_nil,List.append_nil]
theorem aFd (c:Cm):∀(n:Nat) (l:List Opn),l.length=n→(c∈aW l↔∃ o∈l,o.kind=1∧o.came=c)
 | 0,l,hn=>by rw[List.eq_nil_of_length_eq_zero hn];simp[aW]
 | n+1,l,hn=>by
  have hb:l≠[]:=by intro e;rw[e] at hn;cases hn
  have hl:l.dropLast.length=n:=by rw[List.length_dropLast];omega
  have ih:=aFd c n l.dropLast hl;have hs:l=l.dropLast++[l.getLast hb]:=(List.dropLast_concat_getLast hb).symm;generalize l.dropLast=m at ih hs;generalize l.getLast hb=o at hs;subst hs;rw[gY];by_cases h:o.kind=1
  ·rw[if_pos h,mA,ih]
   constructor
   ·rintro (rfl|⟨x,hx,h1,h2⟩)
    ·exact⟨o,by simp,h,rfl⟩
    ·exact⟨x,by simp[hx],h1,h2⟩
   ·rintro ⟨x,hx,h1,h2⟩
    rcases List.mem_append.1 hx with hx|hx
    ·exact .inr ⟨x,hx,h1,h2⟩
    ·obtain rfl:=List.mem_singleton.1 hx
     exact .inl h2.symm
  ·rw[if_neg h,ih]
   constructor
   ·rintro ⟨x,hx,h1,h2⟩
    exact⟨x,by simp[hx],h1,h2⟩
   ·rintro ⟨x,hx,h1,h2⟩
    rcases List.mem_append.1 hx with hx|hx
    ·exact⟨x,hx,h1,h2⟩
    ·obtain rfl:=List.mem_singleton.1 hx
     exact absurd h1 h
theorem aWi {l:List Opn} {o:Opn} (h:o∈l) (h1:o.kind=1):o.came∈aW l:=(aFd _ _ l rfl).2 ⟨o,h,h1,rfl⟩
theorem aBh {l:List Cm} {c:Cm} (h:sB l c=0):l.length<256∧dZ [] l=true∧iA c=true∧(∀ x∈l,x.unit≠c.unit)∧iW l c=0:=by
 unfold sB at h;split at h
 ·cases h
 ·rename_i h1
  simp only [not_or,Bool.not_eq_false] at h1;split at h
  ·cases h
  ·rename_i h2
   split at h
   ·cases h
   ·rename_i h3
    split at h
    ·rename_i h4
     exact absurd h h4
    ·rename_i h4
     split at h
     ·cases h
     ·refine⟨by omega,h1.2,by simpa using h2,fun x hx e=>h3 ?_,by simpa using h4⟩
      rw[List.any_eq_true];exact⟨x,hx,by simp[e]⟩
theorem tB (c:Cm):∀ l:List Cm,l.Pairwise (fun a b=>a.unit<b.unit)→(∀ x∈l,x.unit≠c.unit)→(jR c l).Pairwise (fun a b=>a.unit<b.unit)
 | [],_,_=>by simp[jR]
 | y::r,h,hn=>by
  obtain⟨h1,h2⟩:=List.pairwise_cons.1 h;have ih:=tB c r h2 fun x hx=>hn x (List.mem_cons_of_mem _ hx)
  have hy:=hn y List.mem_cons_self;unfold jR;split
  ·rename_i hlt
   refine List.pairwise_cons.2 ⟨fun x hx=>?_,ih⟩;rcases (mA _ _ _).1 hx with rfl|hx
   ·exact hlt
   ·exact h1 x hx
  ·rename_i hge
   refine List.pairwise_cons.2 ⟨fun x hx=>?_,h⟩;rcases List.mem_cons.1 hx with rfl|hx
   ·omega
   ·have:=h1 x hx;omega
theorem pH {l:List Opn} (h:gD l):(aW l).Pairwise fun a b=>a.unit<b.unit:=by
 induction h with
 | nil=>exact List.Pairwise.nil
 | @snoc l o h ha ih =>
  rw[gY];split
  ·rename_i hk
   exact tB _ _ ih (aBh ((qK (gL ha)).1 hk)).2.2.2.1
  ·exact ih
def ofC (l:List Cm) (u:Int):Option Cm:=l.find? fun c=>c.unit == u
theorem aTi {l:List Cm} (h:l.Pairwise fun a b=>a.unit<b.unit) {c:Cm} (hc:c∈l):ofC l c.unit=some c:=by
 unfold ofC
 induction l with
 | nil=>cases hc
 | cons x r ih =>
  obtain⟨h1,h2⟩:=List.pairwise_cons.1 h;rcases List.mem_cons.1 hc with rfl|hc1
  ·rw[List.find?_cons_of_pos b_54]
  ·have:=h1 c hc1
   rw[List.find?_cons_of_neg b_50];exact ih h2 hc1
theorem aNl {l:List Opn} {p:Opn} (h:p∈l) (hc:cE l p=true):∃ i,(i,p)∈cN l:=by
 have:p∈(cN l).map Prod.snd:=by
  rw[aIh];exact List.mem_filter.2 ⟨h,hc⟩
 obtain⟨⟨i,q⟩,hq,rfl⟩:=List.mem_map.1 this;exact⟨i,hq⟩
end Go.Proofs.YtdochkemaiokfaaGreat

namespace Go.Proofs.YtdochkemaiokfaaGreat
open Go.RowKit Go.Shelf
attribute [local go_sem] Oper.semAt_some
theorem c_127 {p:Prop} (h:p:=by
 go_wp2;go_ret;exact⟨rfl,(uX w).alloc _⟩
):p:=h
theorem h_23 {p:Prop} (h:p:=by
 exact uQ ((uX w).alloc (.cells #[.int .i64 o0,.int .i64 o1,.int .i64 o2,.int .i64 o3,.int .i64 o4,.int .i64 o5,.int .i64 o6,.string o7,.string o8,.int .i64 o9,.int .i64 o10,.int .i64 o11] 26)) h
):p:=h
theorem h_35 {p:Prop} (h:p:=by
 exact uZ (And.intro r0 (And.intro r1 (And.intro r2 (And.intro r3 (And.intro r4 (And.intro r5 (And.intro r6 (And.intro r7 (And.intro r8 (And.intro r9 (And.intro r10 (r11))))))))))))
):p:=h
theorem h_156 {p:Prop} (h:p:=by
 exact(show w1.cell? ⟨w.heap.size+1,0,none⟩=some (.int .i64 0) from aC hb rfl)
):p:=h
theorem h_157 {p:Prop} (h:p:=by
 exact(show w1.cell? ⟨w.heap.size+1,1,none⟩=some (.int .i64 0) from aC hb rfl)
):p:=h
theorem h_158 {p:Prop} (h:p:=by
 exact(show w1.cell? ⟨w.heap.size+1,2,none⟩=some (.int .i64 0) from aC hb rfl)
):p:=h
theorem s_8 {p:Prop} (h:p:=by
 go_enter Tryz.func90,Tryz.ntmps90;go_wp2_with fail;refine KA.out.mono ?_;rintro e w1 ⟨rfl,g1⟩;have hb:=HB.out w1 g1;have q0:=h_156;have z0:w1.frozen? ⟨w.heap.size+1,0,none⟩=false:=aS hb;have q1:=h_157;have z1:w1.frozen? ⟨w.heap.size+1,1,none⟩=false:=aS hb;have q2:=h_158;have z2:w1.frozen? ⟨w.heap.size+1,2,none⟩=false:=aS hb;have q3:w1.cell? ⟨w.heap.size+1,3,none⟩=some (.int .i64 0):=aC hb rfl;have z3:w1.frozen? ⟨w.heap.size+1,3,none⟩=false:=aS hb;have q4:w1.cell? ⟨w.heap.size+1,4,none⟩=some (.int .i64 0):=aC hb rfl;have z4:w1.frozen? ⟨w.heap.size+1,4,none⟩=false:=aS hb;have q5:w1.cell? ⟨w.heap.size+1,5,none⟩=some (.int .i64 0):=aC hb rfl;have z5:w1.frozen? ⟨w.heap.size+1,5,none⟩=false:=aS hb;have q6:w1.cell? ⟨w.heap.size+1,6,none⟩=some (.int .i64 0):=aC hb rfl;have z6:w1.frozen? ⟨w.heap.size+1,6,none⟩=false:=aS hb;have q7:w1.cell? ⟨w.heap.size+1,7,none⟩=some (.string ⟨#[]⟩):=aC hb rfl;have z7:w1.frozen? ⟨w.heap.size+1,7,none⟩=false:=aS hb;have q8:w1.cell? ⟨w.heap.size+1,8,none⟩=some (.string ⟨#[]⟩):=aC hb rfl;have z8:w1.frozen? ⟨w.heap.size+1,8,none⟩=false:=aS hb;have q9:w1.cell? ⟨w.heap.size+1,9,none⟩=some (.int .i64 0):=aC hb rfl;have z9:w1.frozen? ⟨w.heap.size+1,9,none⟩=false:=aS hb;have q10:w1.cell? ⟨w.heap.size+1,10,none⟩=some (.int .i64 0):=aC hb rfl;have z10:w1.frozen? ⟨w.heap.size+1,10,none⟩=false:=aS hb;have q11:w1.cell? ⟨w.heap.size+1,11,none⟩=some (.int .i64 0):=aC hb rfl;have z11:w1.frozen? ⟨w.heap.size+1,11,none⟩=false:=aS hb;exact nX.g
):p:=h
theorem aJi (o:Opn) (w:World):Calls Tryz.prog 68 #[o.agg] w fun e w'=>e=.returned (.bool (cJ o))∧aA w w':=by
 obtain⟨o0,o1,o2,o3,o4,o5,o6,o7,o8,o9,o10,o11⟩:=o;unfold Opn.agg cJ;dsimp only;cases h1:(o2 == 1)<;>cases h2:(o2 == 4)<;>cases h3:o8.toList.isEmpty
 all_goals
  go_enter Tryz.func68,Tryz.ntmps68;exact c_127
theorem aXp (IB:Nat) (id:Int) (x:Opn) (w:World) (h:w.cell? ⟨IB,0,none⟩=some (.int .i64 id)):Calls Tryz.prog 127 (#[x.agg] ++ #[.pointer (some ⟨IB,0,none⟩)]) w fun e w'=>e=.returned (.bool (x.id == id && x.kind != 6))∧aA w w':=by
 obtain⟨o0,o1,o2,o3,o4,o5,o6,o7,o8,o9,o10,o11⟩:=x;unfold Opn.agg;dsimp only;have h3:=h_23;cases h1:(o0 == id)<;>cases h2:(o2 != 6)
 all_goals
  go_enter Tryz.func127,Tryz.ntmps127;exact c_127
theorem xW:∀ args w,(callFunc 127 args).run Tryz.prog w=.ok (.enter 127 args) w:=enters_of Tryz.func127 (by kernel_rfl) rfl
def aSl (R:Option Opn) (w:World) (e:Ending) (w':World):Prop:=e=.returned (.tuple #[(R.getD aTh).agg,.bool R.isSome])∧aA w w'
theorem aMy (l:List Opn) (id:Int):(iZ l id=none∧lL (fun o=>o.id == id && o.kind != 6) l=-1)∨∃ k,∃ h:k<l.length,iZ l id=some l[k]∧lL (fun o=>o.id == id && o.kind != 6) l=(k:Int):=by
 by_cases h:l.any (fun o=>o.id == id && o.kind != 6)=true
 ·obtain⟨m,hm,h1,h2⟩:=mD _ l h
  refine .inr ⟨m,hm,?_,eW _ l m hm h1 h2⟩;unfold iZ;rw[List.find?_eq_some_iff_getElem];exact⟨h1,m,hm,rfl,fun j hj=>by rw[h2 j b_53 hj];rfl⟩
 ·simp only [Bool.not_eq_true] at h
  refine .inl ⟨?_,eA _ l fun i hi=>?_⟩
  ·unfold iZ
   rw[List.find?_eq_none];intro x hx;rw[List.any_eq_false] at h;exact h x hx
  ·rw[List.any_eq_false] at h
   have:=h l[i] (List.getElem_mem hi);simpa only [Bool.not_eq_true] using this
def zDm:=Unit
theorem zDm.g {p:Prop} (_:zDm) (h:p:=by
 have hs:=aYj hb (.int .i64 0) (.int .i64 0) (.int .i64 0) (.int .i64 0) (.int .i64 0) (.int .i64 0) (.int .i64 0) (.string ⟨#[]⟩) (.string ⟨#[]⟩) (.int .i64 0) (.int .i64 0) (.int .i64 0);have r0:=aC (i:=0) (x:=.int .i64 0) hs rfl;have r1:=aC (i:=1) (x:=.int .i64 0) hs rfl;have r2:=aC (i:=2) (x:=.int .i64 0) hs rfl;have r3:=aC (i:=3) (x:=.int .i64 0) hs rfl;have r4:=aC (i:=4) (x:=.int .i64 0) hs rfl;have r5:=aC (i:=5) (x:=.int .i64 0) hs rfl;have r6:=aC (i:=6) (x:=.int .i64 0) hs rfl;have r7:=aC (i:=7) (x:=.string ⟨#[]⟩) hs rfl;have r8:=aC (i:=8) (x:=.string ⟨#[]⟩) hs rfl;have r9:=aC (i:=9) (x:=.int .i64 0) hs rfl;have r10:=aC (i:=10) (x:=.int .i64 0) hs rfl;have r11:=aC (i:=11) (x:=.int .i64 0) hs rfl;have HG1:=h_229;have HGW:=uZ (show aA w ((((((((((((w1.setCell ⟨w.heap.size+1,0,none⟩ (.int .i64 0)).setCell ⟨w.heap.size+1,1,none⟩ (.int .i64 0)).setCell ⟨w.heap.size+1,2,none⟩ (.int .i64 0)).setCell ⟨w.heap.size+1,3,none⟩ (.int .i64 0)).setCell ⟨w.heap.size+1,4,none⟩ (.int .i64 0)).setCell ⟨w.heap.size+1,5,none⟩ (.int .i64 0)).setCell ⟨w.heap.size+1,6,none⟩ (.int .i64 0)).setCell ⟨w.heap.size+1,7,none⟩ (.string ⟨#[]⟩)).setCell ⟨w.heap.size+1,8,none⟩ (.string ⟨#[]⟩)).setCell ⟨w.heap.size+1,9,none⟩ (.int .i64 0)).setCell ⟨w.heap.size+1,10,none⟩ (.int .i64 0)).setCell ⟨w.heap.size+1,11,none⟩ (.int .i64 0)) from aMv HG1.out (Nat.le_succ _) _ _ _ _ _ _ _ _ _ _ _ _);have HRR:=h_35;clear hs hb g1 k1 r0 r1 r2 r3 r4 r5 r6 r7 r8 r9 r10 r11;dsimp only;go_wp2;obtain⟨r0,r1,r2,r3,r4,r5,r6,r7,r8,r9,r10,r11⟩:=HRR.out;generalize ((((((((((((w1.setCell ⟨w.heap.size+1,0,none⟩ (.int .i64 0)).setCell ⟨w.heap.size+1,1,none⟩ (.int .i64 0)).setCell ⟨w.heap.size+1,2,none⟩ (.int .i64 0)).setCell ⟨w.heap.size+1,3,none⟩ (.int .i64 0)).setCell ⟨w.heap.size+1,4,none⟩ (.int .i64 0)).setCell ⟨w.heap.size+1,5,none⟩ (.int .i64 0)).setCell ⟨w.heap.size+1,6,none⟩ (.int .i64 0)).setCell ⟨w.heap.size+1,7,none⟩ (.string ⟨#[]⟩)).setCell ⟨w.heap.size+1,8,none⟩ (.string ⟨#[]⟩)).setCell ⟨w.heap.size+1,9,none⟩ (.int .i64 0)).setCell ⟨w.heap.size+1,10,none⟩ (.int .i64 0)).setCell ⟨w.heap.size+1,11,none⟩ (.int .i64 0))=WW at r0 r1 r2 r3 r4 r5 r6 r7 r8 r9 r10 r11 HGW ⊢;refine bodyPost_ret (v:=.tuple #[.agg #[.int .i64 0,.int .i64 0,.int .i64 0,.int .i64 0,.int .i64 0,.int .i64 0,.int .i64 0,.string ⟨#[]⟩,.string ⟨#[]⟩,.int .i64 0,.int .i64 0,.int .i64 0],.bool false]) ?_ ?_ ?_
 ·simp[results,Tryz.results90,go_sem,r0,r1,r2,r3,r4,r5,r6,r7,r8,r9,r10,r11]
 ·rfl
 ·exact⟨rfl,HGW.out⟩
):p:=h
def zDn:=Unit
theorem zDn.g {p:Prop} (_:zDn) (h:p:=by
 have hs:=aYj hb (.int .i64 o0) (.int .i64 o1) (.int .i64 o2) (.int .i64 o3) (.int .i64 o4) (.int .i64 o5) (.int .i64 o6) (.string o7) (.string o8) (.int .i64 o9) (.int .i64 o10) (.int .i64 o11);have r0:=aC (i:=0) (x:=.int .i64 o0) hs rfl;have r1:=aC (i:=1) (x:=.int .i64 o1) hs rfl;have r2:=aC (i:=2) (x:=.int .i64 o2) hs rfl;have r3:=aC (i:=3) (x:=.int .i64 o3) hs rfl;have r4:=aC (i:=4) (x:=.int .i64 o4) hs rfl;have r5:=aC (i:=5) (x:=.int .i64 o5) hs rfl;have r6:=aC (i:=6) (x:=.int .i64 o6) hs rfl;have r7:=aC (i:=7) (x:=.string o7) hs rfl;have r8:=aC (i:=8) (x:=.string o8) hs rfl;have r9:=aC (i:=9) (x:=.int .i64 o9) hs rfl;have r10:=aC (i:=10) (x:=.int .i64 o10) hs rfl;have r11:=aC (i:=11) (x:=.int .i64 o11) hs rfl;have HG1:=h_229;obtain⟨c0,c1,c2,c3,c4,c5,c6,c7,c8,c9,c10,c11⟩:=HCK.out w1 HG1.out;have k2:=uQ g1 HK1.out;have HGW:=uZ (show aA w ((((((((((((w1.setCell ⟨w.heap.size+1,0,none⟩ (.int .i64 o0)).setCell ⟨w.heap.size+1,1,none⟩ (.int .i64 o1)).setCell ⟨w.heap.size+1,2,none⟩ (.int .i64 o2)).setCell ⟨w.heap.size+1,3,none⟩ (.int .i64 o3)).setCell ⟨w.heap.size+1,4,none⟩ (.int .i64 o4)).setCell ⟨w.heap.size+1,5,none⟩ (.int .i64 o5)).setCell ⟨w.heap.size+1,6,none⟩ (.int .i64 o6)).setCell ⟨w.heap.size+1,7,none⟩ (.string o7)).setCell ⟨w.heap.size+1,8,none⟩ (.string o8)).setCell ⟨w.heap.size+1,9,none⟩ (.int .i64 o9)).setCell ⟨w.heap.size+1,10,none⟩ (.int .i64 o10)).setCell ⟨w.heap.size+1,11,none⟩ (.int .i64 o11)) from aMv HG1.out (Nat.le_succ _) _ _ _ _ _ _ _ _ _ _ _ _);have HRR:=h_35;clear hs hb g1 k1 r0 r1 r2 r3 r4 r5 r6 r7 r8 r9 r10 r11;dsimp only;go_wp2;obtain⟨r0,r1,r2,r3,r4,r5,r6,r7,r8,r9,r10,r11⟩:=HRR.out;generalize ((((((((((((w1.setCell ⟨w.heap.size+1,0,none⟩ (.int .i64 o0)).setCell ⟨w.heap.size+1,1,none⟩ (.int .i64 o1)).setCell ⟨w.heap.size+1,2,none⟩ (.int .i64 o2)).setCell ⟨w.heap.size+1,3,none⟩ (.int .i64 o3)).setCell ⟨w.heap.size+1,4,none⟩ (.int .i64 o4)).setCell ⟨w.heap.size+1,5,none⟩ (.int .i64 o5)).setCell ⟨w.heap.size+1,6,none⟩ (.int .i64 o6)).setCell ⟨w.heap.size+1,7,none⟩ (.string o7)).setCell ⟨w.heap.size+1,8,none⟩ (.string o8)).setCell ⟨w.heap.size+1,9,none⟩ (.int .i64 o9)).setCell ⟨w.heap.size+1,10,none⟩ (.int .i64 o10)).setCell ⟨w.heap.size+1,11,none⟩ (.int .i64 o11))=WW at r0 r1 r2 r3 r4 r5 r6 r7 r8 r9 r10 r11 HGW ⊢;refine bodyPost_ret (v:=.tuple #[.agg #[.int .i64 o0,.int .i64 o1,.int .i64 o2,.int .i64 o3,.int .i64 o4,.int .i64 o5,.int .i64 o6,.string o7,.string o8,.int .i64 o9,.int .i64 o10,.int .i64 o11],.bool true]) ?_ ?_ ?_
 ·simp[results,Tryz.results90,go_sem,r0,r1,r2,r3,r4,r5,r6,r7,r8,r9,r10,r11]
 ·rfl
 ·exact⟨rfl,HGW.out⟩
):p:=h
theorem bCa (l:List Opn) (id:Int) (lv:Value) (KB:Nat) (w:World) (hv:SlO w lv l) (hk:w.cell? ⟨KB,0,none⟩=some lv) (hlen:l.length≤1000000):Calls Tryz.prog 90 #[.pointer (some ⟨KB,0,none⟩),.int .i64 id] w (aSl (iZ l id) w):=by
 have kI:=fun IB W (hW:aA w W) (h:∀ W2,aA W W2→W2.cell? ⟨IB,0,none⟩=some (.int .i64 id))=>vH l (fun o=>o.id == id && o.kind != 6) _ #[.pointer (some ⟨IB,0,none⟩)] xW lv W (hv.mono hW) (fun W2 x hg _=>aXp IB id x W2 (h W2 hg))
 have hcase:=aMy l id;obtain⟨A,c,rfl,hlc,hcap,hr⟩:=hv.open_;unfold maxLen at hcap;have HR:=uZ hr;have hG:=((uX w).alloc (.cells #[.int .i64 id] 3)).alloc (.cells #[.int .i64 0,.int .i64 0,.int .i64 0,.int .i64 0,.int .i64 0,.int .i64 0,.int .i64 0,.string ⟨#[]⟩,.string ⟨#[]⟩,.int .i64 0,.int .i64 0,.int .i64 0] 26);have HU:=uZ (fun(W:World) (g:aA ((w.alloc (.cells #[.int .i64 id] 3)).alloc (.cells #[.int .i64 0,.int .i64 0,.int .i64 0,.int .i64 0,.int .i64 0,.int .i64 0,.int .i64 0,.string ⟨#[]⟩,.string ⟨#[]⟩,.int .i64 0,.int .i64 0,.int .i64 0] 26)) W)=>(show W.cell? ⟨w.heap.size,0,none⟩=some (.int .i64 id) from yQ (w:=w) (((uX _).alloc _).trans g) 0 _ rfl));have ka:=kI w.heap.size _ hG (fun W hW=>HU.out W hW);have HG0:=uZ hG
 have HB:=uZ (fun(W:World) (g:aA ((w.alloc (.cells #[.int .i64 id] 3)).alloc (.cells #[.int .i64 0,.int .i64 0,.int .i64 0,.int .i64 0,.int .i64 0,.int .i64 0,.int .i64 0,.string ⟨#[]⟩,.string ⟨#[]⟩,.int .i64 0,.int .i64 0,.int .i64 0] 26)) W)=>(show W.heap[w.heap.size+1]? = some (.cells #[.int .i64 0,.int .i64 0,.int .i64 0,.int .i64 0,.int .i64 0,.int .i64 0,.int .i64 0,.string ⟨#[]⟩,.string ⟨#[]⟩,.int .i64 0,.int .i64 0,.int .i64 0] 26 (0,0)) from by
  have:=aD g (aO (w.alloc (.cells #[.int .i64 id] 3)) (.cells #[.int .i64 0,.int .i64 0,.int .i64 0,.int .i64 0,.int .i64 0,.int .i64 0,.int .i64 0,.string ⟨#[]⟩,.string ⟨#[]⟩,.int .i64 0,.int .i64 0,.int .i64 0] 26))
  rwa [World.size_alloc] at this))
 have k1:=uQ hG hk;have HK1:=uZ k1;generalize lL (fun o=>o.id == id && o.kind != 6) l=ix at ka hcase;have KA:=uZ ka;clear kI hr hv ka HU hG hk;rcases hcase with ⟨ho,rfl⟩|⟨k,hk,ho,rfl⟩
 ·rw[ho]
  clear ho;unfold aSl aTh;dsimp only [Option.getD_none,Option.isSome_none,Opn.agg];have nX:zDm:=()
  exact s_8
 ·rw[ho]
  clear ho;have hkz:=h_208;obtain⟨b,off,rfl,hbb,hcell⟩:=HR.out b_53;have hck:=fun W hW=>hcell W hW k hk
  clear hcell;generalize l[k]=y at hck ⊢;obtain⟨o0,o1,o2,o3,o4,o5,o6,o7,o8,o9,o10,o11⟩:=y;have HCK:=uZ hck;clear hck;unfold aSl;dsimp only [Option.getD_some,Option.isSome_some,Opn.agg];have nX:zDn:=()
  exact s_8
end Go.Proofs.YtdochkemaiokfaaGreat
namespace Go.Proofs.YtdochkemaiokfaaGreat
open Go.RowKit Go.Shelf
attribute [local go_sem] Oper.semAt_some
structure aSq (w:World) (IB RB:Nat) (id:Int) (q:Bool) (W:World):Prop where
 g:aA w W
 i:Boxed W IB 3 (.int .i64 id)
 r:Boxed W RB 4 (.bool q)
structure aXc (w:World) (IB RB LB N:Nat):Prop where
 i:w.heap.size≤IB
 r:IB<RB
 l:RB<LB
 n:LB<N
section
variable {w W W':World} {IB RB LB N:Nat} {id:Int} {q:Bool} {row:Option Nat}
theorem aSq.turn (h:aSq w IB RB id q W) (hL:aXc w IB RB LB N) (hg:W.grownBy W' row) (hr:∀ r,row=some r→N≤r):aSq w IB RB id q W':=by
 obtain⟨h1,h2,h3,h4⟩:=hL;exact⟨Below.grown h.g hg h.g.size (fun k e=>by have:=hr k e;omega),bY hg h.i (fun r e=>by have:=hr r e;omega),bY hg h.r (fun r e=>by have:=hr r e;omega)⟩
theorem aSq.put (h:aSq w IB RB id q W) (hL:aXc w IB RB LB N) (p:Bool):aSq w IB RB id p (W.setCell ⟨RB,0,none⟩ (.bool p)):=by
 obtain⟨h1,h2,h3,h4⟩:=hL;refine⟨h.g.setCell (p:=⟨RB,0,none⟩) (by show w.heap.size≤RB;omega) _,?_,h.r.set _⟩;show(_:World).heap[IB]? = _;rw[Below.heap_setCell _ _ _ _ (by show IB≠RB;omega)];exact h.i
end
def bEq (IB RB LB KB:Nat) (id:Int) (lv:Value) (x:Int × Opn) (a:Act) (W:World):Prop:=∃ OB,a={ tmps:=#[.pointer (some ⟨KB,0,none⟩),.int .i64 id,undef,.pointer (some ⟨IB,0,none⟩),.pointer (some ⟨RB,0,none⟩),undef,.pointer (some ⟨OB,0,none⟩),.pointer (some ⟨KB,0,none⟩),.pointer (some ⟨KB,0,none⟩),.pointer (some ⟨KB,0,none⟩),lv,.func (.func 69) #[] #[.pointer (some ⟨LB,0,none⟩)],.int .i64 x.1,x.2.agg,undef,undef,undef,undef],defers:=[] } ∧
 W.heap[OB]? = some (.cells x.2.cells.toArray 26 (0,0))
theorem aUe (l:List Opn) (hwf:∀ i (h:i<l.length),WfO l[i]) (id:Int) (lv:Value) (KB:Nat) (w:World) (hv:SlO w lv l) (hk:w.cell? ⟨KB,0,none⟩=some lv) (hlen:l.length≤1000000):Calls Tryz.prog 91 #[.pointer (some ⟨KB,0,none⟩),.int .i64 id] w fun e w'=>e=.returned (.bool ((cN l).any fun p=>p.2.id == id))∧aA w w':=by
 have KC:=uZ (fun A n c W=>sE A n c W);have KS:=h_155;obtain⟨A,c,rfl,-⟩:=hv.open_;generalize cN l=CI at KS ⊢;have hk1:=uQ (((uX w).alloc (.cells #[.int .i64 id] 3)).alloc (.cells #[.bool false] 4)) hk;clear hv hwf hk;refine(callsIn_wide (n:=9)).1 ?_;refine callsIn_of_wp_marks Tryz.func91 rfl trivial ?_ rfl;simp only [Tryz.ntmps91,List.size_toArray,List.length_cons,List.length_nil,Nat.reduceAdd,Nat.reduceSub,Array.replicate_succ,Array.replicate_zero,List.push_toArray,List.append_toArray,List.nil_append,List.cons_append];refine wpIn_wide.2 ?_;go_wp2_with fail;refine(KC.out _ _ _ _).mono ?_;rintro e wl ⟨rfl,hwl⟩;dsimp only;go_wp2_with fail;refine(wpIn_wide (n:=9)).1 ?_
 have hI0:aSq w w.heap.size (w.heap.size+1) id false wl:=by
  have e0:=aO w (.cells #[.int .i64 id] 3);generalize hA:w.alloc (.cells #[.int .i64 id] 3)=W1 at e0 hwl;have s1:W1.heap.size=w.heap.size+1:=by rw[← hA,World.size_alloc]
  have g1:aA w W1:=by rw[← hA];exact(uX w).alloc _
  have e1:=aO W1 (.cells #[.bool false] 4);generalize hB:W1.alloc (.cells #[.bool false] 4)=W2 at e1 hwl;have g2:aA W1 W2:=by rw[← hB];exact(uX W1).alloc _
  have g3:aA W2 wl:=by rw[← hwl];exact(uX W2).alloc _
  rw[s1] at e1;exact⟨(g1.trans g2).trans g3,aD (g2.trans g3) e0,aD g3 e1⟩
 have hsz:wl.heap.size=w.heap.size+1+1+1:=by rw[← hwl];simp only [World.size_alloc]
 have hLx:Boxed wl (w.heap.size+1+1) 22 (.slice A l.length c):=by
  have:=Boxed.new ((w.alloc (.cells #[.int .i64 id] 3)).alloc (.cells #[.bool false] 4)) 22 (.slice A l.length c);rw[hwl] at this;simpa only [World.size_alloc] using this
 simp only [World.size_alloc];clear hwl;have hAt:aXc w w.heap.size (w.heap.size+1) (w.heap.size+1+1) wl.heap.size:=⟨by omega,by omega,by omega,by omega⟩
 clear hsz;generalize w.heap.size+1+1=LB at hLx hAt ⊢;generalize w.heap.size+1=RB at hI0 hAt ⊢;have HAT:=uZ hAt;have hst:=KS.out (fun k=>k=RB) wl.heap.size LB 8 wl hAt.n (by have:=hAt.l;omega) hI0.g hLx;have HI0:=uZ hI0;have HN:=uZ (show w.heap.size≤wl.heap.size from hI0.g.size);generalize hIB:w.heap.size=IB at HAT HI0 ⊢;have HIB:=uZ hIB;clear hI0 hLx hAt KS KC hk1 hIB
 refine nV rfl b_53 (gf:=69) (lb:=#[.pointer (some ⟨LB,0,none⟩)]) rfl trivial (enters_of Tryz.func69 (by kernel_rfl) rfl) HN.out hst (fun _=>rfl)
  (fun pre W=>(pre.any fun p=>p.2.id == id)=false∧aSq w IB RB id false W)
  (fun c pre W=>c=.ret∧(pre.any fun p=>p.2.id == id)=true∧aSq w IB RB id true W)
  (fun _ _ _ _ hs hg hr=>⟨hs.1,hs.2.turn HAT.out hg (fun r e=>(hr r e).1)⟩)
  (fun _ _ _ _ _ hs hg hr=>⟨hs.1,hs.2.1,hs.2.2.turn HAT.out hg (fun r e=>(hr r e).1)⟩)
  ⟨rfl,HI0.out⟩
  (bEq IB RB LB KB id (.slice A l.length c))
  (fun x a' _ W W' row h hg hr=>by
   obtain⟨OB,h1,h2⟩:=h
   exact⟨OB,h1,bY hg h2 (fun r e k=>by have:=(hr r e).2 _ (by rw[k];exact h2);cases this)⟩)
  ?assign ?body ?done ?stop
 case assign =>
  exact c_88
 case body =>
  rintro ll pre ⟨xi,o⟩ a' W ⟨hz,hB⟩ ⟨OB,rfl,hO⟩ hSp;have HB:=uZ hB;have HZ:=uZ hz;have hi:=hB.i.cell;have hr:=hB.r.cell;have hf:=hB.r.frozen;have HBR:=uZ hB.r;obtain⟨o0,o1,o2,o3,o4,o5,o6,o7,o8,o9,o10,o11⟩:=o;have q0:W.cell? ⟨OB,0,none⟩=some (.int .i64 o0):=aC hO rfl;dsimp only [Opn.agg];clear hz hB hO hst HI0 hSp;cases hq:(o0 == id)
  ·gi_wp2
   refine⟨aFl (uX _),KpS.refl _ _ _ _,?_,HB.out⟩;rw[List.any_append,HZ.out,List.any_cons,List.any_nil];simpa using hq
  ·gi_wp2
   refine⟨KeepsOthers.setCell _ _ _,rfl,?_,HB.out.put HAT.out true⟩;rw[List.any_append,List.any_cons];simp[hq]
 case done =>
  rintro D xs W hD rfl ⟨hz,hB⟩ hK;have hr:=hB.r.cell;have hf:=hB.r.frozen;have FIN:=uZ ((hB.put HAT.out false).turn HAT.out (grownBy_putObj' _ D (.deferred none)) (fun r e=>by cases e;exact hD));have HZ:=uZ hz;have HK:=uZ hK;clear hz hB hK hst HI0;go_wp2;refine⟨by simp,.inl ⟨_,_,rfl,run_takeDeferred ((KeepsOthers.setCell _ _ _).same _ _ HK.out rfl),?_⟩⟩;have p0:=FIN.out.r.cell;refine⟨.bool false,by simp[results,Tryz.results91,go_sem,p0],?_,FIN.out.g⟩;rw[HZ.out]
 case stop =>
  rintro D c pre W hD ⟨suf,hSp⟩ ⟨rfl,hz,hB⟩ hK;have FIN:=uZ (hB.turn HAT.out (grownBy_putObj' _ D (.deferred none)) (fun r e=>by cases e;exact hD));have HZ:=uZ hz;have HK:=uZ hK;have HSP:=uZ hSp;clear hz hB hK hst HI0 hSp
  gi_wp2
  refine⟨by simp,.inl ⟨_,_,rfl,run_takeDeferred HK.out,?_⟩⟩;have p0:=FIN.out.r.cell;refine⟨.bool true,by simp[results,Tryz.results91,go_sem,p0],?_,FIN.out.g⟩;rw[← HSP.out,List.any_append,HZ.out];rfl
end Go.Proofs.YtdochkemaiokfaaGreat
namespace Go.Proofs.YtdochkemaiokfaaGreat
open Go.RowKit
theorem c_52 {p:Prop} (h:p:=by
 go_wp2_with fail;go_loopg [1,2] 0 (fun gg s1 s2 wr=>s1=.int .i64 0∧s2=.int .i64 0∧wr=w)
 case atStart=>exact⟨rfl,rfl,rfl⟩
 case round =>
  obtain⟨rfl,rfl,rfl⟩:=hrel;go_wp2_with fail;refine K.out.mono ?_;rintro e w1 ⟨rfl,rfl⟩;dsimp only;go_wp2;refine bodyPost_ret (results_none rfl _ _ _) rfl ?_;exact⟨rfl,rfl⟩
):p:=h
theorem c_75 {p:Prop} (h:p:=by
 go_wp2_with fail;refine KL.out.mono ?_;rintro e w1 ⟨⟨n,rfl⟩,rfl⟩;dsimp only;go_wp2_with fail;refine(K.out _).mono ?_;rintro e w1 ⟨rfl,rfl⟩;dsimp only;go_wp2
 go_end0
 exact⟨rfl,rfl⟩
):p:=h
theorem c_79 {p:Prop} (h:p:=by
 go_wp2;go_loopg [8] 0 (fun gg s8 wr=>s8=.int .i64 1∧wr=w)
 case atStart=>exact⟨rfl,rfl⟩
 case round =>
  obtain⟨rfl,rfl⟩:=hrel;go_wp2
  go_end0
  exact⟨rfl,rfl⟩
):p:=h
theorem aOb (w:World):Calls Tryz.prog 116 #[.int .u64 0] w fun e w'=>(∃ n,e=.returned (.int .i64 n))∧w=w':=by
 go_enter Tryz.func116,Tryz.ntmps116;go_wp2;go_ret;exact⟨⟨_,rfl⟩,rfl⟩
theorem aOc (w:World):Calls Tryz.prog 75 #[.int .u64 0] w fun e w'=>(∃ n,e=.returned (.int .i64 n))∧w=w':=by
 have K:=uZ (aOb w);go_enter Tryz.func75,Tryz.ntmps75;go_wp2_with fail;refine K.out.mono ?_;rintro e w1 ⟨⟨n,rfl⟩,rfl⟩;dsimp only;go_wp2;go_ret;exact⟨⟨_,rfl⟩,rfl⟩
theorem aMi (A:Option Addr) (c:Nat) (fv:Value) (w:World):Calls Tryz.prog 157 #[.slice A 0 c,.int .i64 0,.int .i64 0,fv] w fun e w'=>e=.returned (.tuple #[])∧w=w':=by
 go_enter Tryz.func157,Tryz.ntmps157;exact c_79
theorem bCm (A:Option Addr) (c:Nat) (n:Int) (fv:Value) (w:World):Calls Tryz.prog 105 #[.slice A 0 c,.int .i64 0,.int .i64 0,.int .i64 n,fv] w fun e w'=>e=.returned (.tuple #[])∧w=w':=by
 have K:=uZ (aMi A c fv w);go_enter Tryz.func105,Tryz.ntmps105;exact c_52
theorem aYg (A:Option Addr) (c:Nat) (fv:Value) (w:World):Calls Tryz.prog 71 #[.slice A 0 c,fv] w fun e w'=>e=.returned (.tuple #[])∧w=w':=by
 have KL:=uZ (aOc w);have K:=uZ (fun n=>bCm A c n fv w);go_enter Tryz.func71,Tryz.ntmps71;exact c_75
theorem aMh (A:Option Addr) (c:Nat) (fv:Value) (w:World):Calls Tryz.prog 107 #[.slice A 0 c,.int .i64 0,.int .i64 0,fv] w fun e w'=>e=.returned (.tuple #[])∧w=w':=by
 go_enter Tryz.func107,Tryz.ntmps107;exact c_79
theorem bCl (A:Option Addr) (c:Nat) (n:Int) (fv:Value) (w:World):Calls Tryz.prog 74 #[.slice A 0 c,.int .i64 0,.int .i64 0,.int .i64 n,fv] w fun e w'=>e=.returned (.tuple #[])∧w=w':=by
 have K:=uZ (aMh A c fv w);go_enter Tryz.func74,Tryz.ntmps74;exact c_52
theorem aYf (A:Option Addr) (c:Nat) (fv:Value) (w:World):Calls Tryz.prog 54 #[.slice A 0 c,fv] w fun e w'=>e=.returned (.tuple #[])∧w=w':=by
 have KL:=uZ (aOc w);have K:=uZ (fun n=>bCl A c n fv w);go_enter Tryz.func54,Tryz.ntmps54;exact c_75
end Go.Proofs.YtdochkemaiokfaaGreat
namespace Go.Proofs
open Go.Shelf
def Tryz.sortC_ren:Go.Shelf.Ren:=⟨fun|6=>71|15=>75|14=>105|28=>115|29=>116|20=>157|21=>158|22=>159|23=>160|24=>161|25=>162|26=>163|27=>164|46=>209|47=>166|48=>167|49=>210|50=>211|57=>235|n=>n,fun|22=>50|24=>69|25=>105|3=>3|39=>108|0=>0|53=>138|55=>140|4=>4|46=>132|45=>131|50=>117|5=>5|9=>9|66=>175|70=>179|76=>206|77=>207|n=>n,fun|n=>n⟩
theorem Tryz.sortC:Go.Proofs.SlLaysF0.n6 Tryz.prog Tryz.sortC_ren:={
 mixed:=by kernel_rfl
 f6:=⟨Tryz.f71.name,by decide,Tryz.func71.trans (congrArg some (by kernel_rfl))⟩
 f14:=⟨Tryz.f105.name,by decide,Tryz.func105.trans (congrArg some (by kernel_rfl))⟩
 f15:=Tryz.func75.trans (congrArg some (by kernel_rfl))
 f20:=⟨Tryz.f157.name,by decide,Tryz.func157.trans (congrArg some (by kernel_rfl))⟩
 f21:=⟨Tryz.f158.name,by decide,Tryz.func158.trans (congrArg some (by kernel_rfl))⟩
 f22:=⟨Tryz.f159.name,by decide,Tryz.func159.trans (congrArg some (by kernel_rfl))⟩
 f23:=⟨Tryz.f160.name,by decide,Tryz.func160.trans (congrArg some (by kernel_rfl))⟩
 f24:=⟨Tryz.f161.name,by decide,Tryz.func161.trans (congrArg some (by kernel_rfl))⟩
 f25:=⟨Tryz.f162.name,by decide,Tryz.func162.trans (congrArg some (by kernel_rfl))⟩
 f26:=⟨Tryz.f163.name,by decide,Tryz.func163.trans (congrArg some (by kernel_rfl))⟩
 f27:=⟨Tryz.f164.name,by decide,Tryz.func164.trans (congrArg some (by kernel_rfl))⟩
 f28:=Tryz.func115.trans (congrArg some (by kernel_rfl))
 f29:=Tryz.func116.trans (congrArg some (by kernel_rfl))
 f46:=⟨Tryz.f209.name,by decide,Tryz.func209.trans (congrArg some (by kernel_rfl))⟩
 f47:=Tryz.func166.trans (congrArg some (by kernel_rfl))
 f48:=Tryz.func167.trans (congrArg some (by kernel_rfl))
 f49:=⟨Tryz.f210.name,by decide,Tryz.func210.trans (congrArg some (by kernel_rfl))⟩
 f50:=⟨Tryz.f211.name,by decide,Tryz.func211.trans (congrArg some (by kernel_rfl))⟩
 f57:=⟨Tryz.f235.name,by decide,Tryz.func235.trans (congrArg some (by kernel_rfl))⟩
 t0:=Tryz.underlying0
 a0:=Tryz.isAgg0
 z0:=Tryz.sizeOf0
 v0:=Tryz.zeroValue0
 t3:=Tryz.underlying3
 a3:=Tryz.isAgg3
 z3:=Tryz.sizeOf3
 v3:=Tryz.zeroValue3
 t4:=Tryz.underlying4
 a4:=Tryz.isAgg4
 z4:=Tryz.sizeOf4
 v4:=Tryz.zeroValue4
 t5:=Tryz.underlying5
 a5:=Tryz.isAgg5
 z5:=Tryz.sizeOf5
 v5:=Tryz.zeroValue5
 t9:=Tryz.underlying9
 a9:=Tryz.isAgg9
 z9:=Tryz.sizeOf9
 v9:=Tryz.zeroValue9
 t22:=Tryz.underlying50
 a22:=Tryz.isAgg50
 z22:=Tryz.sizeOf50
 v22:=Tryz.zeroValue50
 t25:=Tryz.underlying105
 a25:=Tryz.isAgg105
 z25:=Tryz.sizeOf105
 v25:=Tryz.zeroValue105
 t39:=Tryz.underlying108
 a39:=Tryz.isAgg108
 z39:=Tryz.sizeOf108
 v39:=Tryz.zeroValue108
 t45:=Tryz.underlying131
 a45:=Tryz.isAgg131
 z45:=Tryz.sizeOf131
 v45:=Tryz.zeroValue131
 t46:=Tryz.underlying132
 a46:=Tryz.isAgg132
 z46:=Tryz.sizeOf132
 v46:=Tryz.zeroValue132
 t50:=Tryz.underlying117
 a50:=Tryz.isAgg117
 z50:=Tryz.sizeOf117
 v50:=Tryz.zeroValue117
 t53:=Tryz.underlying138
 a53:=Tryz.isAgg138
 z53:=Tryz.sizeOf138
 v53:=Tryz.zeroValue138
 t55:=Tryz.underlying140
 a55:=Tryz.isAgg140
 z55:=Tryz.sizeOf140
 v55:=Tryz.zeroValue140
 t66:=Tryz.underlying175
 a66:=Tryz.isAgg175
 z66:=Tryz.sizeOf175
 v66:=Tryz.zeroValue175
 t70:=Tryz.underlying179
 a70:=Tryz.isAgg179
 z70:=Tryz.sizeOf179
 v70:=Tryz.zeroValue179
 t76:=Tryz.underlying206
 a76:=Tryz.isAgg206
 z76:=Tryz.sizeOf206
 v76:=Tryz.zeroValue206
 t77:=Tryz.underlying207
 a77:=Tryz.isAgg207
 z77:=Tryz.sizeOf207
 v77:=Tryz.zeroValue207 }
open Go.RowKit Go.Sort Go.Lib in
theorem Tryz.slices_SortFuncC {α:Type} [Inhabited α] (enc:α→List Value) (hk:∀ x,(enc x).length=4) (h1:∀ x,∀ v∈enc x,v.oneCell'=true) (cf:α→α→Int) (hO:SWO (ltOf cf)) (g:Nat) (cb:Array Value) (blk off cap:Nat) (d:Array α) (w:World)
  (eg:∀ args w,(callFunc g args).run Tryz.prog w=.ok (.enter g args) w) (hcmp:CmpLays Tryz.prog g cb enc 4 cf blk off d.size w) (hH:HoldsK enc 4 w blk off d) (hblk:blk<w.heap.size) (hsz:d.size<4611686018427387904) :
  Calls Tryz.prog 71 #[.slice (some ⟨blk,off,none⟩) d.size cap,.func (.func g) #[] cb] w fun e w' =>
   e=.returned (.tuple #[])∧∃ d' n os,PermIn 0 d.size d d'∧SortedIn (ltOf cf) 0 d.size d'∧w'=sortWorldK enc 4 w blk off n d' os:=AnyQ.slices_SortFunc Tryz.sortC 4 Tryz.isAgg69 Tryz.sizeOf69 enc hk h1 cf hO g cb blk off cap d w eg hcmp hH hblk hsz
def Tryz.sortM_ren:Go.Shelf.Ren:=⟨fun|6=>54|15=>75|14=>74|28=>115|29=>116|20=>107|21=>108|22=>109|23=>110|24=>111|25=>112|26=>113|27=>114|46=>165|47=>166|48=>167|49=>168|50=>169|57=>212|n=>n,fun|22=>53|24=>62|25=>90|3=>3|39=>108|0=>0|53=>138|55=>140|4=>4|46=>132|45=>131|50=>117|5=>5|9=>9|66=>175|70=>179|76=>206|77=>207|n=>n,fun|n=>n⟩
theorem Tryz.sortM:Go.Proofs.SlLaysF0.n6 Tryz.prog Tryz.sortM_ren:={
 mixed:=by kernel_rfl
 f6:=⟨Tryz.f54.name,by decide,Tryz.func54.trans (congrArg some (by kernel_rfl))⟩
 f14:=⟨Tryz.f74.name,by decide,Tryz.func74.trans (congrArg some (by kernel_rfl))⟩
 f15:=Tryz.func75.trans (congrArg some (by kernel_rfl))
 f20:=⟨Tryz.f107.name,by decide,Tryz.func107.trans (congrArg some (by kernel_rfl))⟩
 f21:=⟨Tryz.f108.name,by decide,Tryz.func108.trans (congrArg some (by kernel_rfl))⟩
 f22:=⟨Tryz.f109.name,by decide,Tryz.func109.trans (congrArg some (by kernel_rfl))⟩
 f23:=⟨Tryz.f110.name,by decide,Tryz.func110.trans (congrArg some (by kernel_rfl))⟩
 f24:=⟨Tryz.f111.name,by decide,Tryz.func111.trans (congrArg some (by kernel_rfl))⟩
 f25:=⟨Tryz.f112.name,by decide,Tryz.func112.trans (congrArg some (by kernel_rfl))⟩
 f26:=⟨Tryz.f113.name,by decide,Tryz.func113.trans (congrArg some (by kernel_rfl))⟩
 f27:=⟨Tryz.f114.name,by decide,Tryz.func114.trans (congrArg some (by kernel_rfl))⟩
 f28:=Tryz.func115.trans (congrArg some (by kernel_rfl))
 f29:=Tryz.func116.trans (congrArg some (by kernel_rfl))
 f46:=⟨Tryz.f165.name,by decide,Tryz.func165.trans (congrArg some (by kernel_rfl))⟩
 f47:=Tryz.func166.trans (congrArg some (by kernel_rfl))
 f48:=Tryz.func167.trans (congrArg some (by kernel_rfl))
 f49:=⟨Tryz.f168.name,by decide,Tryz.func168.trans (congrArg some (by kernel_rfl))⟩
 f50:=⟨Tryz.f169.name,by decide,Tryz.func169.trans (congrArg some (by kernel_rfl))⟩
 f57:=⟨Tryz.f212.name,by decide,Tryz.func212.trans (congrArg some (by kernel_rfl))⟩
 t0:=Tryz.underlying0
 a0:=Tryz.isAgg0
 z0:=Tryz.sizeOf0
 v0:=Tryz.zeroValue0
 t3:=Tryz.underlying3
 a3:=Tryz.isAgg3
 z3:=Tryz.sizeOf3
 v3:=Tryz.zeroValue3
 t4:=Tryz.underlying4
 a4:=Tryz.isAgg4
 z4:=Tryz.sizeOf4
 v4:=Tryz.zeroValue4
 t5:=Tryz.underlying5
 a5:=Tryz.isAgg5
 z5:=Tryz.sizeOf5
 v5:=Tryz.zeroValue5
 t9:=Tryz.underlying9
 a9:=Tryz.isAgg9
 z9:=Tryz.sizeOf9
 v9:=Tryz.zeroValue9
 t22:=Tryz.underlying53
 a22:=Tryz.isAgg53
 z22:=Tryz.sizeOf53
 v22:=Tryz.zeroValue53
 t25:=Tryz.underlying90
 a25:=Tryz.isAgg90
 z25:=Tryz.sizeOf90
 v25:=Tryz.zeroValue90
 t39:=Tryz.underlying108
 a39:=Tryz.isAgg108
 z39:=Tryz.sizeOf108
 v39:=Tryz.zeroValue108
 t45:=Tryz.underlying131
 a45:=Tryz.isAgg131
 z45:=Tryz.sizeOf131
 v45:=Tryz.zeroValue131
 t46:=Tryz.underlying132
 a46:=Tryz.isAgg132
 z46:=Tryz.sizeOf132
 v46:=Tryz.zeroValue132
 t50:=Tryz.underlying117
 a50:=Tryz.isAgg117
 z50:=Tryz.sizeOf117
 v50:=Tryz.zeroValue117
 t53:=Tryz.underlying138
 a53:=Tryz.isAgg138
 z53:=Tryz.sizeOf138
 v53:=Tryz.zeroValue138
 t55:=Tryz.underlying140
 a55:=Tryz.isAgg140
 z55:=Tryz.sizeOf140
 v55:=Tryz.zeroValue140
 t66:=Tryz.underlying175
 a66:=Tryz.isAgg175
 z66:=Tryz.sizeOf175
 v66:=Tryz.zeroValue175
 t70:=Tryz.underlying179
 a70:=Tryz.isAgg179
 z70:=Tryz.sizeOf179
 v70:=Tryz.zeroValue179
 t76:=Tryz.underlying206
 a76:=Tryz.isAgg206
 z76:=Tryz.sizeOf206
 v76:=Tryz.zeroValue206
 t77:=Tryz.underlying207
 a77:=Tryz.isAgg207
 z77:=Tryz.sizeOf207
 v77:=Tryz.zeroValue207 }
open Go.RowKit Go.Sort Go.Lib in
theorem Tryz.slices_SortFuncM {α:Type} [Inhabited α] (enc:α→List Value) (hk:∀ x,(enc x).length=2) (h1:∀ x,∀ v∈enc x,v.oneCell'=true) (cf:α→α→Int) (hO:SWO (ltOf cf)) (g:Nat) (cb:Array Value) (blk off cap:Nat) (d:Array α) (w:World)
  (eg:∀ args w,(callFunc g args).run Tryz.prog w=.ok (.enter g args) w) (hcmp:CmpLays Tryz.prog g cb enc 2 cf blk off d.size w) (hH:HoldsK enc 2 w blk off d) (hblk:blk<w.heap.size) (hsz:d.size<4611686018427387904) :
  Calls Tryz.prog 54 #[.slice (some ⟨blk,off,none⟩) d.size cap,.func (.func g) #[] cb] w fun e w' =>
   e=.returned (.tuple #[])∧∃ d' n os,PermIn 0 d.size d d'∧SortedIn (ltOf cf) 0 d.size d'∧w'=sortWorldK enc 2 w blk off n d' os:=AnyQ.slices_SortFunc Tryz.sortM 2 Tryz.isAgg62 Tryz.sizeOf62 enc hk h1 cf hO g cb blk off cap d w eg hcmp hH hblk hsz
end Go.Proofs
namespace Go.Proofs.YtdochkemaiokfaaGreat
open Go.RowKit Go.Sort Go.Lib
theorem tE {w:World} {g n:Nat} {os:Array Obj} {cur:Array Value} {e:TypeId} {fr:Nat × Nat} (d:Array Value) (hb:w.heap[g]? = some (.cells cur e fr)) :
  (grow (putRow id (Sort.ahead w n) g 0 d) os).heap[g]? = some (.cells (putCells id 0 d cur) e fr):=by
 have hg:g<w.heap.size:=(Array.getElem?_eq_some_iff.1 hb).1;rw[heap_grow_old _ _ (by simpa using hg)];simp[putRow,mapBlock,Sort.ahead,Array.getElem?_modify,hb,onCells]
theorem nP {w:World} {g n:Nat} {os:Array Obj} (d:Array Value):w.grownBy (grow (putRow id (Sort.ahead w n) g 0 d) os) (some g):=by
 refine⟨rfl,rfl,rfl,by simp,fun k hk hne=>?_⟩;rw[heap_grow_old _ _ (by simpa using hk)];have:g≠k:=fun e=>hne (by rw[e])
 simp[putRow,mapBlock,Sort.ahead,Array.getElem?_modify,this]
theorem sH (cur:Array Value) (ts:List Value) (h:ts.length≤cur.size):(putCells id 0 ts.toArray cur).toList.take ts.length=ts:=by
 apply List.ext_getElem?;intro j;by_cases hj:j<ts.length
 ·rw[List.getElem?_take_of_lt hj,Array.getElem?_toList]
  simp[putCells,hj,show j<cur.size by omega]
 ·rw[List.getElem?_take_eq_none b_53,List.getElem?_eq_none b_53]
theorem rR {α:Type} {lt:α→α→Prop} (asym:∀ a b,lt a b→¬ lt b a):∀ {l m:List α},l.Pairwise lt→m.Pairwise lt→(∀ x,x∈l↔x∈m)→l=m
 | [],[],_,_,_=>rfl
 | [],b::m,_,_,h=>by have:=(h b).2 List.mem_cons_self;cases this
 | a::l,[],_,_,h=>by have:=(h a).1 List.mem_cons_self;cases this
 | a::l,b::m,hl,hm,h=>by
  rw[List.pairwise_cons] at hl hm;obtain⟨h1,h2⟩:=hl;obtain⟨k1,k2⟩:=hm
  have hab:a=b:=by
   rcases List.mem_cons.1 ((h a).1 List.mem_cons_self) with e|ha
   ·exact e
   ·rcases List.mem_cons.1 ((h b).2 List.mem_cons_self) with e|hb
    ·exact e.symm
    ·exact absurd (h1 b hb) (asym _ _ (k1 a ha))
  subst hab;have hirr:¬ lt a a:=fun k=>asym _ _ k k
  rw[rR asym h2 k2 fun x=>?_];constructor
  ·intro hx
   rcases List.mem_cons.1 ((h x).1 (List.mem_cons_of_mem _ hx)) with e|hx2
   ·rw[e] at hx;exact absurd (h1 a hx) hirr
   ·exact hx2
  ·intro hx
   rcases List.mem_cons.1 ((h x).2 (List.mem_cons_of_mem _ hx)) with e|hx2
   ·rw[e] at hx;exact absurd (k1 a hx) hirr
   ·exact hx2
theorem aQe {α:Type} {lt:α→α→Prop}:∀ {ms:List α},ms.Pairwise lt→∀ a∈ms,∀ b∈ms,a≠b→lt a b∨lt b a:=by
 intro ms
 induction ms with
 | nil=>intro _ a ha;cases ha
 | cons x r ih =>
  intro hx a ha b hb hab;rw[List.pairwise_cons] at hx;rcases List.mem_cons.1 ha with ea|ha2
  ·rcases List.mem_cons.1 hb with eb|hb2
   ·exact absurd (ea.trans eb.symm) hab
   ·rw[ea]
    exact .inl (hx.1 b hb2)
  ·rcases List.mem_cons.1 hb with eb|hb2
   ·rw[eb]
    exact .inr (hx.1 a ha2)
   ·exact ih hx.2 a ha2 b hb2 hab
theorem uL {α:Type} [Inhabited α] {lt:α→α→Prop} (asym:∀ a b,lt a b→¬ lt b a) {cf:α→α→Int} (hcf:∀ x y,ltOf cf x y=true↔lt x y) {l m:List α} {d':Array α} (hm:l.Perm m) (hs:m.Pairwise lt) (hp:PermIn 0 l.toArray.size l.toArray d') (ho:SortedIn (ltOf cf) 0 l.toArray.size d'):d'.toList=m:=by
 obtain⟨hsz,-,hperm⟩:=hp;have e1:d'.extract 0 l.toArray.size=d':=by rw[← hsz];exact Array.extract_size
 rw[e1,Array.extract_size] at hperm;have hpm:d'.toList.Perm m:=hperm.trans hm;have hnd:m.Nodup:=(show m.Pairwise (· ≠ ·) from hs.imp fun {a b} h=>fun e:a=b=>by subst e;exact asym _ _ h h)
 have hnd2:d'.toList.Nodup:=hpm.nodup_iff.2 hnd
 have hpair:d'.toList.Pairwise lt:=by
  rw[List.pairwise_iff_getElem];intro i j hi hj hij;have hi':i<d'.size:=by simpa using hi
  have hj':j<d'.size:=by simpa using hj
  have hlt:=ho i j (Nat.zero_le _) hij (by rw[← hsz];exact hj');rw[getElem!_pos d' i hi',getElem!_pos d' j hj'] at hlt;have hne:d'.toList[i]≠d'.toList[j]:=List.pairwise_iff_getElem.1 hnd2 i j hi hj hij;have mi:d'.toList[i]∈m:=hpm.mem_iff.1 (List.getElem_mem hi);have mj:d'.toList[j]∈m:=hpm.mem_iff.1 (List.getElem_mem hj);rcases aQe hs _ mi _ mj hne with h|h
  ·exact h
  ·exfalso
   have:ltOf cf d'[j] d'[i]=true:=(hcf _ _).2 b_49;rw[this] at hlt;cases hlt
 exact rR asym hpair hs fun x=>hpm.mem_iff
theorem pE {α:Type} [Inhabited α] {f:α→List Value} {k:Nat} (h0:0<k) (hf:∀ x,(f x).length=k) (l:List α):flatK f k l.toArray=(l.flatMap f).toArray:=by
 have hfl:=aL f k hf l;refine Array.ext (by simp[hfl]) fun i h1 h2=>?_
 have hi:i<l.length*k:=by simpa using h1
 have e:i=i / k*k+i % k:=by rw[Nat.mul_comm];exact(Nat.div_add_mod i k).symm
 have hq:i / k<l.length:=Nat.div_lt_of_lt_mul (by rw[Nat.mul_comm];exact hi);have hr:i % k<k:=Nat.mod_lt _ h0;have hg:=fD f k hf l (i / k) (i % k) hq hr;rw[← e] at hg;have hk:=get_flatK f k l.toArray i (by simpa using hi);rw[getElem!_pos _ i h1] at hk;rw[hk];have h3:l.toArray[i / k]! = l[i / k]:=by rw[getElem!_pos l.toArray (i / k) (by simpa using hq)];simp
 have h4:i % k<(f (l[i / k])).length:=by rw[hf];exact hr
 rw[h3,getElem!_pos (f (l[i / k])) (i % k) h4];rw[List.getElem?_eq_getElem h4,List.getElem?_eq_getElem (by simpa using h2)] at hg;simpa using (Option.some.inj hg).symm
theorem c_89 {p:Prop} (h:p:=by
 go_wp2_with fail;refine(K.out _).mono ?_;rintro e w1 ⟨rfl,rfl⟩;dsimp only;go_wp2;go_ret;exact⟨rfl,0,_,by rw[alloc_eq_grow,alloc_eq_grow,grow_grow];rfl⟩
):p:=h
def ltC (a b:Cm):Prop:=a.unit<b.unit
def cfC (a b:Cm):Int:=compareInt a.unit b.unit
theorem aQx (a b:Cm) (h:ltC a b):¬ ltC b a:=by unfold ltC at h ⊢;omega
instance:Inhabited Cm:=⟨⟨0,0,0,0⟩⟩
theorem aNw (x y:Cm):ltOf cfC x y=true↔ltC x y:=by
 unfold ltOf cfC ltC compareInt;split
 ·rename_i h;simp[h]
 ·rename_i h
  split<;>simp<;>omega
theorem aTu (x y:Cm):ltOf cfC x y=false↔¬ ltC x y:=by
 rw[← aNw];simp
theorem aWl:SWO (ltOf cfC):=by
 refine⟨fun x=>?_,fun x y z h1 h2=>?_,fun x y z h1 h2=>?_⟩
 ·rw[aTu];unfold ltC;omega
 ·rw[aNw] at h1 h2 ⊢;unfold ltC at *;omega
 ·rw[aTu] at h1 h2 ⊢;unfold ltC at *;omega
theorem bDa (x y:Cm) (W:World):Calls Tryz.prog 72 #[x.agg,y.agg] W fun e w'=>e=.returned (.int .i64 (cfC x y))∧∃ q os',w'=grow (W.drewN q) os':=by
 have K:=uZ (fun W=>Tryz.cmp_Compare_int x.unit y.unit W);unfold cfC;obtain⟨xu,xo,xa,xn⟩:=x;obtain⟨yu,yo,ya,yn⟩:=y;unfold Cm.agg;dsimp only at K ⊢;generalize compareInt xu yu=q at K ⊢;go_enter Tryz.func72,Tryz.ntmps72;exact c_89
theorem aAm:∀ args w,(callFunc 72 args).run Tryz.prog w=.ok (.enter 72 args) w:=enters_of Tryz.func72 (by kernel_rfl) rfl
theorem aNs (blk off size:Nat) (w:World):CmpLays Tryz.prog 72 #[] Cm.cells 4 cfC blk off size w:=fun _ _ _ _ x y=>by
 have:=bDa x y;unfold Cm.agg at this;exact this _
theorem aJu (l m:List Cm) (h0:0<l.length) (hm:l.Perm m) (hs:m.Pairwise ltC) (w0:World) (v:Value) (w:World) (hown:w.ownsRow w0.heap.size 69 4 v l.length (l.flatMap Cm.cells)) (hg:aA w0 w) (hl:l.length≤1000000) :
  Calls Tryz.prog 71 #[v,.func (.func 72) #[] #[]] w fun en w'=>en=.returned (.tuple #[])∧w'.ownsRow w0.heap.size 69 4 v m.length (m.flatMap Cm.cells)∧aA w0 w':=by
 have hfl:=aL Cm.cells 4 (fun _=>rfl) l;have hfm:=aL Cm.cells 4 (fun _=>rfl) m;have hlm:l.length=m.length:=hm.length_eq;have hH0:=hown;rcases hown.2 with ⟨_,hz⟩|⟨g,cap,cur,rfl,hbg,hh,h1,h2,h3,h4⟩
 ·omega
 have hlt:g<w.heap.size:=(Array.getElem?_eq_some_iff.1 hh).1
 have hH:HoldsK Cm.cells 4 w g 0 l.toArray:=by
  intro j hj;rw[pE (f:=Cm.cells) (k:=4) b_53 (fun _=>rfl)] at hj ⊢;have hj':j<(l.flatMap Cm.cells).length:=by simpa using hj
  rw[Nat.zero_add];refine⟨?_,hH0.frozenAt j⟩;rw[hH0.cellAt j b_53,List.getElem?_eq_getElem hj',getElem!_pos _ j hj];simp
 refine(Tryz.slices_SortFuncC Cm.cells (fun _=>rfl) (fun x u hu=>by simp[Cm.cells] at hu;rcases hu with rfl|rfl|rfl|rfl<;>rfl) cfC aWl 72 #[] g 0 cap l.toArray w aAm (aNs _ _ _ _) hH hlt b_50).mono ?_;rintro en w' ⟨rfl,d',n,os,hp,ho,rfl⟩;have hd:d'=m.toArray:=Array.toList_inj.1 (by rw[uL aQx aNw hm hs hp ho]);subst hd;unfold sortWorldK putRowK;rw[pE (f:=Cm.cells) (k:=4) b_53 (fun _=>rfl)];refine⟨rfl,⟨by rw[hfm],.inr ⟨g,cap,_,by rw[hlm],hbg,tE _ hh,by omega,h2,by simp[putCells,h3],?_⟩⟩,?_⟩
 ·have:=sH cur (m.flatMap Cm.cells) (by rw[hfm,h3];omega)
  rw[hfm] at this;exact this
 ·exact Below.grown hg (nP _) hg.size (fun k e=>by cases e;exact hbg)
end Go.Proofs.YtdochkemaiokfaaGreat

namespace Go.Proofs.YtdochkemaiokfaaGreat
open Go.RowKit
theorem aAt:(Tryz.prog.info? 26).map (fun i=>(i.zero,i.size,i.bytes))=some (some (.agg #[.int .i64 0,.int .i64 0,.int .i64 0,.int .i64 0,.int .i64 0,.int .i64 0,.int .i64 0,.string ⟨#[]⟩,.string ⟨#[]⟩,.int .i64 0,.int .i64 0,.int .i64 0]),12,112):=by kernel_rfl
theorem qB (l:List Opn):∀ u∈l.flatMap Opn.cells,u.oneCell'=true:=by
 intro u hu;rw[List.mem_flatMap] at hu;obtain⟨x,_,hx⟩:=hu;simp[Opn.cells] at hx;rcases hx with rfl|rfl|rfl|rfl|rfl|rfl|rfl|rfl|rfl|rfl|rfl|rfl<;>rfl
theorem vR (l:List Opn) (v:Value) (w:World) (hv:SlO w v l) (hb:l.length*112≤140737488355328) :
  Calls Tryz.prog 15 #[v] w fun e w'=>∃ v',e=.returned v'∧w'.ownsRow w.heap.size 26 12 v' l.length (l.flatMap Opn.cells)∧aA w w':=by
 obtain⟨A,n,c,rfl,hl,hn,hc,hr⟩:=hv;have hfl:=aL Opn.cells 12 (fun _=>rfl) l;obtain rfl:n=l.length:=by omega
 unfold maxLen at hc;have q22:∀(w:World) (a:Option Addr) (n c:Nat),(binOp .eql 22 (.slice a n c) (.slice none 0 0)).run Tryz.prog w=.ok (.bool a.isNone) w:=fun w a n c=>Lib.run_eql_slice_nil w _ _ a n c 0 0 Tryz.underlying22
 cases A with
 | none =>
  have h0:l.length=0:=by
   exact c_107
  obtain rfl:l=[]:=List.eq_nil_of_length_eq_zero h0;clear hr hl hn hfl h0 hb;go_enter Tryz.func15,Tryz.ntmps15;exact c_122
 | some ad =>
  have hcells:∀ j u,(l.flatMap Opn.cells)[j]? = some u→w.cell? (ad.add j)=some u:=by
   exact c_57
  have HC:=uZ hcells;have H1:=uZ (qB l);have HL:=uZ hl;generalize l.flatMap Opn.cells=cs at HC H1 HL ⊢;clear hcells hr hl hfl;obtain⟨i0,hi,hz0,hz1,hz2⟩:=info_parts aAt;go_enter Tryz.func15,Tryz.ntmps15;go_wp2_with (at_builtin;refine wpList_append_own _ rfl _ _ 22 rfl w.heap.size 26 i0 (.agg #[.int .i64 0,.int .i64 0,.int .i64 0,.int .i64 0,.int .i64 0,.int .i64 0,.int .i64 0,.string ⟨#[]⟩,.string ⟨#[]⟩,.int .i64 0,.int .i64 0,.int .i64 0]) 12 112 Tryz.underlying22 hi hz0 hz1 hz2 rfl b_53 _ _ _ rfl (World.ownsRow_made w #[] 0 (Nat.le_refl _) (Nat.zero_le _) b_54) ad l.length c cs rfl ?qc1 ?qc2 ?qc3 ?qc4 ?qc5 ?qc6 ?_)
  case qc1=>exact HL.out
  case qc2=>exact fun j u hu=>(aA.cell ((uX w).alloc _) (by
   have:=block_lt_of_cell (HC.out j u hu)
   exact this)).trans (HC.out j u hu)
  case qc3=>exact H1.out
  case qc4=>unfold maxLen;omega
  case qc5=>omega
  case qc6=>simp
  exact c_64
theorem aAu:(Tryz.prog.info? 69).map (fun i=>(i.zero,i.size,i.bytes))=some (some (.agg #[.int .i64 0,.int .i64 0,.int .i64 0,.int .i64 0]),4,32):=by kernel_rfl
theorem eJ (l:List Cm):∀ u∈l.flatMap Cm.cells,u.oneCell'=true:=by
 intro u hu;rw[List.mem_flatMap] at hu;obtain⟨x,_,hx⟩:=hu;simp[Cm.cells] at hx;rcases hx with rfl|rfl|rfl|rfl<;>rfl
theorem bAo (l:List Cm) (v:Value) (w:World) (hv:SlC w v l) (hb:l.length*32≤140737488355328) :
  Calls Tryz.prog 126 #[v] w fun e w'=>∃ v',e=.returned v'∧w'.ownsRow w.heap.size 69 4 v' l.length (l.flatMap Cm.cells)∧aA w w':=by
 obtain⟨A,n,c,rfl,hl,hn,hc,hr⟩:=hv;have hfl:=aL Cm.cells 4 (fun _=>rfl) l;obtain rfl:n=l.length:=by omega
 unfold maxLen at hc;have q22:∀(w:World) (a:Option Addr) (n c:Nat),(binOp .eql 50 (.slice a n c) (.slice none 0 0)).run Tryz.prog w=.ok (.bool a.isNone) w:=fun w a n c=>Lib.run_eql_slice_nil w _ _ a n c 0 0 Tryz.underlying50
 cases A with
 | none =>
  have h0:l.length=0:=by
   exact c_107
  obtain rfl:l=[]:=List.eq_nil_of_length_eq_zero h0;clear hr hl hn hfl h0 hb;go_enter Tryz.func126,Tryz.ntmps126;exact c_122
 | some ad =>
  have hcells:∀ j u,(l.flatMap Cm.cells)[j]? = some u→w.cell? (ad.add j)=some u:=by
   exact c_57
  have HC:=uZ hcells;have H1:=uZ (eJ l);have HL:=uZ hl;generalize l.flatMap Cm.cells=cs at HC H1 HL ⊢;clear hcells hr hl hfl;obtain⟨i0,hi,hz0,hz1,hz2⟩:=info_parts aAu;go_enter Tryz.func126,Tryz.ntmps126;go_wp2_with (at_builtin;refine wpList_append_own _ rfl _ _ 50 rfl w.heap.size 69 i0 (.agg #[.int .i64 0,.int .i64 0,.int .i64 0,.int .i64 0]) 4 32 Tryz.underlying50 hi hz0 hz1 hz2 rfl b_53 _ _ _ rfl (World.ownsRow_made w #[] 0 (Nat.le_refl _) (Nat.zero_le _) b_54) ad l.length c cs rfl ?qc1 ?qc2 ?qc3 ?qc4 ?qc5 ?qc6 ?_)
  case qc1=>exact HL.out
  case qc2=>exact fun j u hu=>(aA.cell ((uX w).alloc _) (by
   have:=block_lt_of_cell (HC.out j u hu)
   exact this)).trans (HC.out j u hu)
  case qc3=>exact H1.out
  case qc4=>unfold maxLen;omega
  case qc5=>omega
  case qc6=>simp
  exact c_64
end Go.Proofs.YtdochkemaiokfaaGreat