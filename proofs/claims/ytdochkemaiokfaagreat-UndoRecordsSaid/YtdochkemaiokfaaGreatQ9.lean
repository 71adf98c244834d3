/- Lemmas on what the functions of the program and of the library compute: PlainAp, PlainTg, PlainBk, PlainBm, PlainCh, PlainCan, PlainOb, PlainOd, PlainRt. The conditions stand at each. -/
import Derived.Test.YtdochkemaiokfaaGreatQ8
set_option maxHeartbeats 16000000
set_option maxRecDepth 100000
set_option linter.all false
namespace Go.Proofs.YtdochkemaiokfaaGreat
open Go.RowKit
def tY (l:List UInt8):Bool:=decide (l.length≤64) && iB 33 126 l
def iU (f a n:Int):Bool:=aN f 0 1073741824 && ((aN a 1 1073741824 && aN n 1 9999) || (a == 0 && n == 0))
def eP (o:Opn):Bool:=o.office == 0 && (o.acc == 0 && o.num == 0)
def iE (o:Opn):Bool:=o.parent == 0 && (o.before == 0 && o.level == 0)
def sS (o:Opn):Bool:=aN o.parent 0 1073741824 && aN o.before 0 1073741824
def cK (s:ByteArray):Bool:=s.toList.isEmpty
def pB (o:Opn):Bool :=
 if o.kind=1 then sS o && (aN o.level 1 4 && (fB o.title.data.toList && (tY o.mark.data.toList && iU o.office o.acc o.num)))
 else if o.kind=2 then sS o && (o.level == 0 && (cK o.title && (cK o.mark && eP o)))
 else if o.kind=3 then fB o.title.data.toList && (iE o && (cK o.mark && eP o))
 else if o.kind=4 then tY o.mark.data.toList && (iE o && (cK o.title && eP o))
 else if o.kind=5∨o.kind=6 then iE o && (cK o.title && (cK o.mark && eP o))
 else false
def aP (o:Opn):Bool:=aN o.id 1 1073741824 && (aN o.day 0 1048575 && (aN o.unit 1 1073741824 && pB o))
def dC (t:Tr) (parent level:Int):Bool:=if parent=0 then level == 1 else match aE t.brs parent with
 | none=>false
 | some p=>fX p.level level
def gF (t:Tr) (m:ByteArray) (but:Int):Bool:=!m.toList.isEmpty && t.brs.any fun b=>b.mark.toList == m.toList && !(b.id == but)
def eK (t:Tr) (o:Opn):Int :=
 if (aE t.brs o.unit).isSome=true then 6
 else if o.parent≠0∧(aE t.brs o.parent).isSome=false then 7
 else if dC t o.parent o.level=false then 18
 else if o.before≠0∧o.before∉aB t o.parent then 7
 else if gF t o.mark 0=true then 19
 else if 256≤t.brs.length then 8 else 0
def eI (t:Tr) (o:Opn):Int:=match aE t.brs o.unit with
 | none=>7
 | some u =>
  if o.parent≠0∧(aE t.brs o.parent).isSome=false then 7
  else if o.parent∈bA t o.unit then 17
  else if dC t o.parent u.level=false then 18
  else if o.before≠0∧(o.before=o.unit∨o.before∉aB t o.parent) then 7 else 0
def gW (t:Tr) (o:Opn):Int:=match aE t.brs o.unit with
 | none=>7
 | some _=>if o.kind=4∧gF t o.mark o.unit=true then 19 else 0
def mJ (t:Tr) (o:Opn):Int:=match aE t.brs o.unit with
 | none=>7
 | some u=>if u.kids≠[] then 11 else 0
def cW (t:Tr) (o:Opn):Int:=if o.kind=1 then eK t o else if o.kind=2 then eI t o else if o.kind=5 then mJ t o else gW t o
def oG (t:Tr) (o:Opn):Tr :=
 if o.kind=1 then fF t o else match aE t.brs o.unit with
  | none=>t
  | some u=>if o.kind=2 then jM t o u else if o.kind=5 then fJ t o u
   else if o.kind=3 then jX t o.unit fun b=>{ b with title:=o.title } else jX t o.unit fun b=>{ b with mark:=o.mark }
open Classical in
noncomputable def aT (t:Tr) (o:Opn):Tr × Int :=
 if ¬ aM t∨aP o=false∨o.kind=6 then(⟨[],[]⟩,1) else if cW t o≠0 then(⟨[],[]⟩,cW t o) else if aM (oG t o) then(oG t o,0) else(⟨[],[]⟩,15)
theorem mR {t:Tr} (h:bP t.brs) (p lv:Int):dC t p lv=true↔jC t.brs p lv:=by
 unfold dC jC;by_cases hp:p=0
 ·simp[hp]
 ·rw[if_neg hp]
  cases hf:aE t.brs p with
  | none =>
   have:=(fE p).1 hf;simp only [Bool.false_eq_true,false_iff];rintro (⟨h1,_⟩|⟨_,q,hq,h2,_⟩)
   ·exact hp h1
   ·exact this q hq h2
  | some q =>
   have hq:=bE hf;constructor
   ·exact fun h1=>.inr ⟨hp,q,hq.1,hq.2,h1⟩
   ·rintro (⟨h1,_⟩|⟨_,q2,hq2,h2,h3⟩)
    ·exact absurd h1 hp
    ·have:=lD h hq2 hq.1 (by rw[h2,hq.2])
     subst this;exact h3
theorem aBs {t:Tr} {m:ByteArray} {but:Int} (h:gF t m but=false):∀ c∈t.brs,c.id≠but→m.toList.isEmpty=false→m.toList≠c.mark.toList:=by
 intro c hc hne hm he;unfold gF at h;rw[hm] at h;simp only [Bool.not_false,Bool.true_and,List.any_eq_false] at h;have:=h c hc;rw[← he] at this;simp[hne] at this
theorem xH {m:ByteArray} (h:tY m.data.toList=true):m.toList.isEmpty=false→jP m.data.toList=true:=by
 intro hne;unfold tY at h;unfold jP;rw[Bool.and_eq_true,decide_eq_true_eq] at h;rw[Bool.and_eq_true,decide_eq_true_eq];refine⟨⟨?_,h.1⟩,h.2⟩;by_cases h0:m.data.toList.length=0
 ·exfalso
  have h1:m.data.toList=[]:=List.eq_nil_of_length_eq_zero h0
  have h2:m.toList=[]:=by
   rw[← h1,ByteArray.toList_eq]
  rw[h2] at hne;cases hne
 ·omega
theorem qF {t:Tr} {o:Opn} (h:bG t) (hf:aP o=true) (h6:o.kind≠6) (h0:cW t o=0):bG (oG t o):=by
 obtain⟨hC,hK⟩:=(bX t).1 h;unfold aP at hf;simp only [Bool.and_eq_true] at hf;obtain⟨-,-,hu,hk⟩:=hf;unfold pB at hk;unfold cW at h0;unfold oG;by_cases h1:o.kind=1
 ·rw[if_pos h1] at hk h0 ⊢
  simp only [Bool.and_eq_true] at hk;unfold eK at h0;split at h0
  ·simp at h0
  ·rename_i e1
   split at h0
   ·simp at h0
   ·split at h0
    ·simp at h0
    ·rename_i e3
     split at h0
     ·simp at h0
     ·rename_i e4
      split at h0
      ·simp at h0
      ·rename_i e5
       split at h0
       ·simp at h0
       ·rename_i e6
        refine rB h ⟨?_,⟨hu,hk.2.1,hk.2.2.1,xH hk.2.2.2.1⟩,(mR hC.asc _ _).1 (by simpa using e3),fun hb=>?_,fun c hc hne=>?_,by omega⟩
        ·have:aE t.brs o.unit=none:=by simpa using e1
         exact(fE _).1 this
        ·by_cases hm:o.before∈aB t o.parent
         ·exact hm
         ·exact absurd ⟨hb,hm⟩ e4
        ·exact(aBs (by simpa using e5) c hc (fun e=>cC (hC.units c hc) e) hne).symm
 ·rw[if_neg h1] at hk h0 ⊢
  cases hb:aE t.brs o.unit with
  | none =>
   exfalso;unfold eI mJ gW at h0;rw[hb] at h0;simp only [ite_self] at h0;cases h0
  | some u =>
   have hin:=bE hb;show bG (if o.kind=2 then jM t o u else if o.kind=5 then fJ t o u else if o.kind=3 then jX t o.unit fun b=>{ b with title:=o.title } else jX t o.unit fun b=>{ b with mark:=o.mark });by_cases h2:o.kind=2
   ·rw[if_pos h2] at h0 ⊢
    unfold eI at h0;rw[hb] at h0;simp only at h0;split at h0
    ·simp at h0
    ·rename_i e1
     split at h0
     ·simp at h0
     ·rename_i e2
      split at h0
      ·simp at h0
      ·rename_i e3
       split at h0
       ·simp at h0
       ·rename_i e4
        refine vB h ⟨hin.1,hin.2,(mR hC.asc _ _).1 (by simpa using e3),fun hud=>?_,fun hbf=>?_⟩
        ·rw[← hin.2] at hud e2
         exact e2 ((zX h hin.1 _).2 hud)
        ·rw[eQ]
         by_cases hm:o.before∈aB t o.parent
         ·exact⟨hm,fun e=>e4 ⟨hbf,.inl e⟩⟩
         ·exact absurd ⟨hbf,.inr hm⟩ e4
   ·rw[if_neg h2] at h0 ⊢
    by_cases h5:o.kind=5
    ·rw[if_pos h5] at h0 ⊢
     unfold mJ at h0;rw[hb] at h0;simp only at h0;split at h0
     ·simp at h0
     ·rename_i e1
      exact qS h hin.1 hin.2 (by simpa using e1)
    ·rw[if_neg h5] at h0 ⊢
     rw[if_neg h2] at hk;have hun:∀ b∈t.brs,b.id=o.unit→nU b:=fun b hbm _=>hC.units b hbm
     by_cases h3:o.kind=3
     ·rw[if_pos h3] at hk ⊢
      simp only [Bool.and_eq_true] at hk;refine sY h _ _ (fun b=>⟨rfl,rfl,rfl,rfl⟩) (fun b hbm e=>?_) (fun b hbm e c hc hne hme=>?_)
      ·obtain⟨a1,a2,_,a4⟩:=hun b hbm e
       exact⟨a1,a2,hk.1,a4⟩
      ·intro he
       exact hne (by rw[← hC.marks b hbm c hc hme he];exact e)
     ·rw[if_neg h3] at hk ⊢
      by_cases h4:o.kind=4
      ·rw[if_pos h4] at hk
       simp only [Bool.and_eq_true] at hk;unfold gW at h0;rw[hb] at h0;simp only at h0;split at h0
       ·simp at h0
       ·rename_i e1
        refine sY h _ _ (fun b=>⟨rfl,rfl,rfl,rfl⟩) (fun b hbm e=>?_) (fun b hbm e c hc hne hme=>?_)
        ·obtain⟨a1,a2,a3,_⟩:=hun b hbm e
         exact⟨a1,a2,a3,xH hk.1⟩
        ·have hus:gF t o.mark o.unit=false:=by
          rw[← Bool.not_eq_true];exact fun hx=>e1 ⟨h4,hx⟩
         exact aBs hus c hc hne hme
      ·exfalso
       have h56:¬ (o.kind=5∨o.kind=6):=fun h=>h.elim h5 h6
       rw[if_neg h4,if_neg h56] at hk;cases hk
theorem rF {t:Tr} {o:Opn} (h:(aT t o).2=0):aM t∧aM (aT t o).1:=by
 unfold aT at h ⊢;split at h
 ·simp at h
 ·rename_i e1
  rw[if_neg e1];split at h
  ·rename_i e2
   exact absurd h e2
  ·rename_i e2
   rw[if_neg e2];split at h
   ·rename_i e3
    rw[if_pos e3];refine⟨?_,e3⟩;exact Classical.byContradiction fun hn=>e1 (.inl hn)
   ·simp at h
theorem fA {t:Tr} (h:bG t) {u:Br} (hu:u∈t.brs):u.parent=0∨∃ b∈t.brs,b.id=u.parent:=by
 rcases (cQ h.asc u).1 (h.placed u hu) with ⟨h1,_⟩|⟨_,p,hpm,h2,_⟩
 ·exact .inl h1
 ·exact .inr ⟨p,hpm,h2⟩
theorem gR {l:List Br} {p lv:Int} (h:jC l p lv):p=0∨∃ b∈l,b.id=p:=by
 rcases h with ⟨h1,_⟩|⟨_,q,hq,h2,_⟩
 ·exact .inl h1
 ·exact .inr ⟨q,hq,h2⟩
theorem nX {l:List Br} {n x:Int} (hn:∃ b∈l,b.id=n) (hu:bR l n x):∃ b∈l,b.id=x:=by
 cases hu with
 | self=>exact hn
 | step hb _ _=>exact⟨_,hb,rfl⟩
theorem pU {l:List Br} {r:Int→Nat} (hr:∀ b∈l,b.parent≠0→r b.parent<r b.id) {n x:Int} (hu:bR l n x):r n≤r x:=by
 induction hu with
 | self=>exact Nat.le_refl _
 | step hb hp _ ih=>have:=hr _ hb hp;omega
theorem aFe (g:Br→Br) (hg:∀ b,(g b).id=b.id) (b:Br):∀ l:List Br,(lI b l).map g=lI (g b) (l.map g)
 | []=>rfl
 | y::r=>by
  rw[List.map_cons,lI,lI,hg,hg];split
  ·rw[List.map_cons,aFe g hg b r]
  ·rw[List.map_cons,List.map_cons]
theorem aSd {l m:List Br} (h:bP l) (hc:l.map mK=m.map mK):bP m:=by
 have h1:(l.map mK).map Br.id=(m.map mK).map Br.id:=by rw[hc]
 have h2:l.map Br.id=m.map Br.id:=by simpa [List.map_map,Function.comp_def,mK] using h1
 have h3:(l.map Br.id).Pairwise (· < ·):=List.Pairwise.map _ (fun _ _ h=>h) h;rw[h2,List.pairwise_map] at h3;exact h3
theorem aNn (t:Tr) (p:Int) (ks:List Int):(fW t p ks).brs.map mK=t.brs.map mK:=by
 rw[dH];split
 ·rfl
 ·rw[List.map_map]
  congr 1
  funext b
  exact fC p ks b
theorem qY {n u:Int} (hn:n≠u):∀ l:List Br,aE (l.filter fun b=>!(b.id == u)) n=aE l n
 | []=>rfl
 | y::r=>by
  have ih:=qY hn r;by_cases hy:y.id=u
  ·rw[List.filter_cons_of_neg (by simp[hy]),ih]
   unfold aE;rw[List.find?_cons_of_neg (by rw[hy];simpa using fun e=>hn e.symm)]
  ·rw[List.filter_cons_of_pos (by simpa using hy)]
   unfold aE at ih ⊢;rw[List.find?_cons,List.find?_cons,ih]
theorem aIn {t:Tr} {o:Opn} (h:bG t) (hf:aP o=true) (h1:o.kind=1) (h0:cW t o=0):iC t o:=by
 obtain⟨hC,hK⟩:=(bX t).1 h;unfold aP at hf;simp only [Bool.and_eq_true] at hf;obtain⟨-,-,hu,hk⟩:=hf;unfold pB at hk;unfold cW at h0;rw[if_pos h1] at hk h0;simp only [Bool.and_eq_true] at hk;unfold eK at h0;split at h0
 ·simp at h0
 rename_i e1;split at h0
 ·simp at h0
 split at h0
 ·simp at h0
 rename_i e3;split at h0
 ·simp at h0
 rename_i e4;split at h0
 ·simp at h0
 rename_i e5;split at h0
 ·simp at h0
 rename_i e6;refine⟨?_,⟨hu,hk.2.1,hk.2.2.1,xH hk.2.2.2.1⟩,(mR hC.asc _ _).1 (by simpa using e3),fun hb=>?_,fun c hc hne=>?_,by omega⟩
 ·have:aE t.brs o.unit=none:=by simpa using e1
  exact(fE _).1 this
 ·by_cases hm:o.before∈aB t o.parent
  ·exact hm
  ·exact absurd ⟨hb,hm⟩ e4
 ·exact(aBs (by simpa using e5) c hc (fun e=>cC (hC.units c hc) e) hne).symm
theorem aSa {t:Tr} {o:Opn} {u:Br} (h:bG t) (h2:o.kind=2) (h0:cW t o=0) (hb:aE t.brs o.unit=some u):qP t o u:=by
 obtain⟨hC,hK⟩:=(bX t).1 h;have hin:=bE hb;unfold cW at h0;rw[if_neg (by rw[h2];decide),if_pos h2] at h0;unfold eI at h0;rw[hb] at h0;simp only at h0;split at h0
 ·simp at h0
 split at h0
 ·simp at h0
 rename_i e2;split at h0
 ·simp at h0
 rename_i e3;split at h0
 ·simp at h0
 rename_i e4;refine⟨hin.1,hin.2,(mR hC.asc _ _).1 (by simpa using e3),fun hud=>?_,fun hbf=>?_⟩
 ·rw[← hin.2] at hud e2
  exact e2 ((zX h hin.1 _).2 hud)
 ·rw[eQ]
  by_cases hm:o.before∈aB t o.parent
  ·exact⟨hm,fun e=>e4 ⟨hbf,.inl e⟩⟩
  ·exact absurd ⟨hbf,.inr hm⟩ e4
theorem qZ {l:List Br} {p:Int} (h:p=0∨∃ b∈l,b.id=p):¬ (p≠0∧(aE l p).isSome=false):=by
 rintro ⟨h1,h2⟩;have hn:aE l p=none:=by simpa using h2
 rcases h with h|⟨b,hb,e⟩
 ·exact h1 h
 ·exact(fE p).1 hn b hb e
theorem aHj {t:Tr} (h:bG t) {u:Br} (hu:u∈t.brs):jC t.brs u.parent u.level:=(cQ h.asc u).1 (h.placed u hu)
theorem aLr {t:Tr} {o:Opn} (h:o.kind=1):oG t o=fF t o:=by
 unfold oG;rw[if_pos h]
theorem aLq {t:Tr} {o:Opn} {u:Br} (h:o.kind=2) (hb:aE t.brs o.unit=some u):oG t o=jM t o u:=by
 unfold oG;rw[if_neg b_48,hb];simp only;rw[if_pos h]
theorem aLp {t:Tr} {o:Opn} {u:Br} (h:o.kind=5) (hb:aE t.brs o.unit=some u):oG t o=fJ t o u:=by
 unfold oG;rw[if_neg b_48,hb];simp only;rw[if_neg b_48,if_pos h]
theorem aFc {t:Tr} {o:Opn} {u:Br} (h:o.kind=3) (hb:aE t.brs o.unit=some u):oG t o=jX t o.unit fun b=>{ b with title:=o.title }:=by
 unfold oG;rw[if_neg b_48,hb];simp only;rw[if_neg b_48,if_neg b_48,if_pos h]
theorem aFb {t:Tr} {o:Opn} {u:Br} (h:o.kind=4) (hb:aE t.brs o.unit=some u):oG t o=jX t o.unit fun b=>{ b with mark:=o.mark }:=by
 unfold oG;rw[if_neg b_48,hb];simp only;rw[if_neg b_48,if_neg b_48,if_neg b_48]
theorem aFw {t:Tr} {o:Opn} (h:o.kind=1):cW t o=eK t o:=by
 unfold cW;rw[if_pos h]
theorem rW {t:Tr} {o:Opn} (h:o.kind=2):cW t o=eI t o:=by
 unfold cW;rw[if_neg b_48,if_pos h]
theorem xU {t:Tr} {o:Opn} (h:o.kind=5):cW t o=mJ t o:=by
 unfold cW;rw[if_neg b_48,if_neg b_48,if_pos h]
theorem eS {t:Tr} {o:Opn} (h:o.kind=3∨o.kind=4):cW t o=gW t o:=by
 unfold cW;rw[if_neg b_53,if_neg b_53,if_neg b_53]
theorem aMd {o:Opn} (h:aP o=true) (h6:o.kind≠6):o.kind=1∨o.kind=2∨o.kind=3∨o.kind=4∨o.kind=5:=by
 unfold aP at h;simp only [Bool.and_eq_true] at h;obtain⟨-,-,-,hk⟩:=h;unfold pB at hk;by_cases h1:o.kind=1
 ·exact .inl h1
 by_cases h2:o.kind=2
 ·exact .inr (.inl h2)
 by_cases h3:o.kind=3
 ·exact .inr (.inr (.inl h3))
 by_cases h4:o.kind=4
 ·exact .inr (.inr (.inr (.inl h4)))
 by_cases h5:o.kind=5
 ·exact .inr (.inr (.inr (.inr h5)))
 rw[if_neg h1,if_neg h2,if_neg h3,if_neg h4,if_neg (fun h=>h.elim h5 h6)] at hk;cases hk
theorem aHx {t:Tr} {o:Opn} (h:cW t o=0) (h1:o.kind≠1):∃ u,aE t.brs o.unit=some u:=by
 cases hb:aE t.brs o.unit with
 | some u=>exact⟨u,rfl⟩
 | none =>
  exfalso;unfold cW eI mJ gW at h;rw[hb,if_neg h1] at h;simp only [ite_self] at h;cases h
theorem yA {l:List Br} (g:Br→Br) (hg:∀ b,(g b).id=b.id∧(g b).parent=b.parent):∀(n:Nat) (b:Br),dJ (l.map g) n (g b)=dJ l n b
 | 0,b=>by
  unfold dJ;rw[(hg b).2]
 | n+1,b=>by
  unfold dJ;rw[(hg b).2,pF g (fun b=>(hg b).1)]
  cases aE l b.parent with
  | none=>rfl
  | some p =>
   show(if b.parent=0 then some 1 else(dJ (l.map g) n (g p)).map (· + 1))=_;rw[yA g hg n p]
theorem sZ {t:Tr} (h:aM t) (n:Int) (f:Br→Br) (hf:∀ b,(f b).id=b.id∧(f b).parent=b.parent) (hs:bG (jX t n f)):aM (jX t n f):=by
 refine(lQ _).2 ⟨hs,fun b hb=>?_⟩;have hd:=((lQ t).1 h).2;unfold jX at hb ⊢;obtain⟨c,hc,rfl⟩:=List.mem_map.1 hb;obtain⟨d,hd1,hd2⟩:=hd c hc;refine⟨d,?_,hd2⟩
 have hg:∀ b:Br,(if b.id=n then f b else b).id=b.id∧(if b.id=n then f b else b).parent=b.parent:=fun b=>by
  split
  ·exact hf b
  ·exact⟨rfl,rfl⟩
 have:=yA (l:=t.brs) (fun b=>if b.id=n then f b else b) hg t.brs.length c;show dJ (t.brs.map fun b=>if b.id=n then f b else b) (t.brs.map fun b=>if b.id=n then f b else b).length (if c.id=n then f c else c)=some d;rw[List.length_map,this,hd1]
theorem rA {l:List Br} {u:Int} (hno:∀ b∈l,b.parent≠u):∀(n:Nat) (b:Br),b∈l→dJ (l.filter fun c=>!(c.id == u)) n b=dJ l n b
 | 0,b,_=>rfl
 | n+1,b,hb=>by
  unfold dJ;rw[qY (hno b hb)]
  cases hp:aE l b.parent with
  | none=>rfl
  | some p =>
   show(if b.parent=0 then some 1 else(dJ (l.filter fun c=>!(c.id == u)) n p).map (· + 1))=_;rw[rA hno n p (bE hp).1]
theorem zD {t:Tr} {o:Opn} {u:Br} (h:aM t) (hu:u∈t.brs) (hid:u.id=o.unit) (hk:u.kids=[]):aM (fJ t o u):=by
 have hS:=bL h;have hR:=qS (o:=o) hS hu hid hk;refine(lQ _).2 ⟨hR,fun b hb=>?_⟩;have hd:=((lQ t).1 h).2
 have hno:∀ b∈t.brs,b.parent≠o.unit:=fun b hb e=>by
  have hm:=(dY hS (n:=u.id) (x:=b.id) (.inr ⟨u,hu,rfl⟩)).2 ⟨b,hb,by rw[e,hid],rfl⟩;rw[jU hS.asc hu (cC (hS.units u hu)),hk] at hm;cases hm
 -- the list with other children
 obtain⟨g,hg,hl⟩:∃ g:Br→Br,(∀ b,(g b).id=b.id∧(g b).parent=b.parent)∧(fJ t o u).brs=(t.brs.map g).filter fun c=>!(c.id == o.unit):=by
  unfold fJ fW;by_cases h0:u.parent=0
  ·rw[if_pos h0]
   exact⟨id,fun _=>⟨rfl,rfl⟩,by simp⟩
  ·rw[if_neg h0]
   exact⟨_,fun b=>by split<;>exact⟨rfl,rfl⟩,rfl⟩
 have hb2:=hb;rw[hl] at hb2;obtain⟨hb3,-⟩:=List.mem_filter.1 hb2;obtain⟨c,hc,rfl⟩:=List.mem_map.1 hb3;obtain⟨d,hd1,hd2⟩:=hd c hc;refine⟨d,?_,hd2⟩
 have hno2:∀ b∈t.brs.map g,b.parent≠o.unit:=fun b hb=>by
  obtain⟨c,hc,rfl⟩:=List.mem_map.1 hb;rw[(hg c).2];exact hno c hc
 have h1:dJ (fJ t o u).brs t.brs.length (g c)=some d:=by
  rw[hl,rA hno2 _ _ hb3,yA g hg,hd1]
 have h2:=lA hR.asc hb h1;exact(eB _ _ _ h1).2 _ b_53
theorem pT {t:Tr} (h:bG t) (m:ByteArray) (but:Int):gF t m but=match (if m.toList.isEmpty then none else t.brs.find? fun b=>b.mark.toList == m.toList) with
  | none=>false
  | some b=>!(b.id == but):=by
 unfold gF
 cases hm:m.toList.isEmpty with
 | true=>rfl
 | false =>
  simp only [Bool.not_false,Bool.true_and,Bool.false_eq_true,if_false]
  cases hf:t.brs.find? fun b=>b.mark.toList == m.toList with
  | none =>
   rw[List.any_eq_false];intro b hb;have:=List.find?_eq_none.1 hf b hb;simp only [Bool.not_eq_true] at this;simp[this]
  | some c =>
   have hc:=List.mem_of_find?_eq_some hf;have he:c.mark.toList=m.toList:=by simpa using List.find?_some hf
   rw[Bool.eq_iff_iff,List.any_eq_true];constructor
   ·rintro ⟨b,hb,hx⟩
    rw[Bool.and_eq_true] at hx;have hbm:b.mark.toList=m.toList:=by simpa using hx.1
    have:=h.marks b hb c hc (by rw[hbm];exact hm) (by rw[hbm,he]);show(!(c.id == but))=true;rw[← this];exact hx.2
   ·intro hx
    exact⟨c,hc,by rw[Bool.and_eq_true];exact⟨by simpa using he,hx⟩⟩
end Go.Proofs.YtdochkemaiokfaaGreat







