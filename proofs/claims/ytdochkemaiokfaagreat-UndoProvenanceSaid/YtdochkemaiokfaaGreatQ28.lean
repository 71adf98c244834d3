/- Lemmas on what the functions of the program and of the library compute: PlainTl, PlainUh, PlainUi, UnD, DelU, LUa, UnE, UnC0. The conditions stand at each. -/
import Derived.Test.YtdochkemaiokfaaGreatQ9
import Derived.Test.YtdochkemaiokfaaGreatQ11
import Derived.Test.YtdochkemaiokfaaGreatQ27
import Derived.Test.YtdochkemaiokfaaGreatProg
import Derived.Test.YtdochkemaiokfaaGreatQ1
import Derived.Test.YtdochkemaiokfaaGreatQ25
import Derived.Test.YtdochkemaiokfaaGreatQ10
/- RearrangeTogether and RearrangeLocal, plainly: what the program's answers are behind an operation that is applied. No condition. -/
namespace Go.Proofs.YtdochkemaiokfaaGreat
open Go.RowKit
theorem applyR_parts {t:Tr} {o:Opn} (h:(applyR t o).2=0):RightT t∧RightT (applyR t o).1∧(applyR t o).1=newT t o∧formedO o=true∧o.kind≠6∧faultO t o=0:=by
 have hr:=applyR_right h
 refine⟨hr.1,hr.2,?_⟩
 unfold applyR at h ⊢
 split at h
 ·simp at h
 ·rename_i e1
  rw[if_neg e1]
  simp only [not_or,Bool.not_eq_false] at e1
  split at h
  ·rename_i e2
   exact absurd h e2
  ·rename_i e2
   rw[if_neg e2]
   split at h
   ·rename_i e3
    rw[if_pos e3]
    exact⟨rfl,e1.2.1,e1.2.2,by simpa using e2⟩
   ·simp at h
theorem moved_ids {t:Tr} {o:Opn} {u:Br} (q:Int):(∃ b∈(moveT t o u).brs,b.id=q)↔∃ b∈t.brs,b.id=q:=by
 have h1:∀(x:Tr) (f:Br→Br),(∀ b,(f b).id=b.id)→((∃ b∈(setU x o.unit f).brs,b.id=q)↔∃ b∈x.brs,b.id=q):=fun x f hf=>by
  unfold setU
  simp only [List.mem_map]
  constructor
  ·rintro ⟨b,⟨c,hc,rfl⟩,e⟩
   refine⟨c,hc,?_⟩
   rw[← e]
   split
   ·exact(hf c).symm
   ·rfl
  ·rintro ⟨b,hb,e⟩
   refine⟨_,⟨b,hb,rfl⟩,?_⟩
   rw[← e]
   split
   ·exact hf b
   ·rfl
 exact(h1 _ (fun b=>{ b with parent:=o.parent }) (fun _=>rfl)).trans ((setK_ids ..).trans (setK_ids ..))
end Go.Proofs.YtdochkemaiokfaaGreat
/- What the units of a log's tree and their marks come from, plainly. No condition. -/
namespace Go.Proofs.YtdochkemaiokfaaGreat
open Go.RowKit
def ImM (P:Int→ByteArray→Prop) (l:List Br):Prop:=∀ b∈l,P b.id b.mark
theorem setK_im {P:Int→ByteArray→Prop} {t:Tr} (h:ImM P t.brs) (p:Int) (ks:List Int):ImM P (setK t p ks).brs:=by
 rw[setK_brs]
 split
 ·exact h
 ·intro b hb
  obtain⟨c,hc,rfl⟩:=List.mem_map.1 hb
  have:=h c hc
  unfold kidG
  split
  ·exact this
  ·exact this
theorem setU_im {P:Int→ByteArray→Prop} {t:Tr} (h:ImM P t.brs) (m:Int) (f:Br→Br) (hf:∀ b,b.id=m→P b.id b.mark→P (f b).id (f b).mark):ImM P (setU t m f).brs:=by
 intro b hb
 obtain⟨c,hc,rfl⟩:=List.mem_map.1 hb
 have:=h c hc
 split
 ·rename_i e
  exact hf c e this
 ·exact this
theorem newT_im {P:Int→ByteArray→Prop} {t:Tr} {o:Opn} (h:ImM P t.brs) (h1:o.kind=1→P o.unit o.mark) (h4:o.kind≠1→o.kind≠2→o.kind≠5→o.kind≠3→(∃ c∈t.brs,c.id=o.unit)→P o.unit o.mark):ImM P (newT t o).brs:=by
 unfold newT
 split
 ·rename_i e1
  intro b hb
  unfold createT at hb
  rcases (mem_insB _ _ _).1 hb with rfl|hb
  ·exact h1 e1
  ·exact setK_im h _ _ b hb
 ·rename_i e1
  split
  ·exact h
  ·rename_i u hu
   split
   ·unfold moveT
    exact setU_im (setK_im (setK_im h _ _) _ _) _ _ fun b _ hb=>hb
   ·rename_i e2
    split
    ·intro b hb
     unfold removeT at hb
     exact setK_im h _ _ b (List.mem_filter.1 hb).1
    ·rename_i e5
     split
     ·exact setU_im h _ _ fun b _ hb=>hb
     ·rename_i e3
      exact setU_im h _ _ fun b e _=>by
       show P b.id o.mark
       rw[e]
       exact h4 e1 e2 e5 e3 ⟨u,(find_in hu).1,(find_in hu).2⟩
theorem newT_ids {t:Tr} {o:Opn}:∀ b∈(newT t o).brs,(∃ c∈t.brs,c.id=b.id)∨(o.kind=1∧b.id=o.unit) :=
 newT_im (P:=fun n _=>(∃ c∈t.brs,c.id=n)∨(o.kind=1∧n=o.unit)) (fun b hb=>.inl ⟨b,hb,rfl⟩) (fun h=>.inr ⟨h,rfl⟩) (fun _ _ _ _ h=>.inl h)
theorem setU_ids (t:Tr) (m:Int) (f:Br→Br) (hf:∀ b,(f b).id=b.id) (q:Int) (h:∃ b∈t.brs,b.id=q):∃ b∈(setU t m f).brs,b.id=q:=by
 obtain⟨b,hb,e⟩:=h
 refine⟨_,List.mem_map.2 ⟨b,hb,rfl⟩,?_⟩
 split
 ·rw[hf];exact e
 ·exact e
theorem newT_keeps {t:Tr} {o:Opn} {n:Int} (h:∃ b∈t.brs,b.id=n) (h5:¬ (o.kind=5∧o.unit=n)):∃ b∈(newT t o).brs,b.id=n:=by
 unfold newT
 split
 ·obtain⟨b,hb,e⟩:=(setK_ids t o.parent (putF o.unit o.before (childs t o.parent)) n).2 h
  exact⟨b,(mem_insB _ _ _).2 (.inr hb),e⟩
 ·split
  ·exact h
  ·rename_i u hu
   split
   ·exact(moved_ids n).2 h
   ·split
    ·rename_i e5
     obtain⟨b,hb,e⟩:=(setK_ids t u.parent (withoutF o.unit (childs t u.parent)) n).2 h
     refine⟨b,List.mem_filter.2 ⟨hb,?_⟩,e⟩
     have:b.id≠o.unit:=fun k=>h5 ⟨e5,by rw[← k,e]⟩
     simpa using this
    ·split
     ·exact setU_ids t _ (fun b=>{ b with title:=o.title }) (fun _=>rfl) n h
     ·exact setU_ids t _ (fun b=>{ b with mark:=o.mark }) (fun _=>rfl) n h
theorem newT_new {t:Tr} {o:Opn} (h:o.kind=1):∃ b∈(newT t o).brs,b.id=o.unit:=by
 unfold newT
 rw[if_pos h]
 exact⟨_,(mem_insB _ _ _).2 (.inl rfl),rfl⟩
theorem replay_inv (I:Tr→Prop):∀(a:List (Int × Opn)) (t:Tr),I t→(∀ p∈a,∀ t,I t→(applyR t p.2).2=0→I (applyR t p.2).1)→(replayI a t).2.2=0→I (replayI a t).1
 | [],_,h,_,_=>h
 | (i,o)::a,t,h,hs,hz=>by
  rw[replayI] at hz ⊢
  by_cases h0:(applyR t o).2=0
  ·rw[if_pos h0] at hz ⊢
   exact replay_inv I a _ (hs _ List.mem_cons_self t h h0) (fun p hp=>hs p (List.mem_cons_of_mem _ hp)) hz
  ·rw[if_neg h0] at hz
   exact absurd hz h0
theorem countI_in {l:List Opn} {p:Int × Opn} (h:p∈countI l):p.2∈l∧countsB l p.2=true:=by
 rw[countI_idx] at h
 obtain⟨h1,h2⟩:=List.mem_filter.1 h
 exact⟨idx_mem h1,h2⟩
theorem kinds_of {o:Opn} (h:formedO o=true):o.kind=1∨o.kind=2∨o.kind=3∨o.kind=4∨o.kind=5∨o.kind=6:=by
 unfold formedO at h
 simp only [Bool.and_eq_true] at h
 have hk:=h.2.2.2
 unfold kindF at hk
 by_cases h1:o.kind=1
 ·exact .inl h1
 by_cases h2:o.kind=2
 ·exact .inr (.inl h2)
 by_cases h3:o.kind=3
 ·exact .inr (.inr (.inl h3))
 by_cases h4:o.kind=4
 ·exact .inr (.inr (.inr (.inl h4)))
 by_cases h5:o.kind=5
 ·exact .inr (.inr (.inr (.inr (.inl h5))))
 by_cases h6:o.kind=6
 ·exact .inr (.inr (.inr (.inr (.inr h6))))
 ·rw[if_neg h1,if_neg h2,if_neg h3,if_neg h4,if_neg (by omega)] at hk
  cases hk
theorem tree_marks {l:List Opn} (h:AdmL l):∀ b∈(replayF l).1.brs,b.mark.toList.isEmpty=false→∃ x∈l,marksB x=true∧x.mark=b.mark∧x.unit=b.id:=by
 have hz:(replayF l).2.2=0:=by rw[adm_tree h]
 refine replay_inv (fun t=>ImM (fun n m=>m.toList.isEmpty=false→∃ x∈l,marksB x=true∧x.mark=m∧x.unit=n) t.brs) _ _ (fun b hb=>by cases hb) (fun p hp t ht h0=>?_) hz
 obtain⟨-,-,he,hf,h6,-⟩:=applyR_parts h0
 rw[he]
 have hin:=(countI_in hp).1
 have hm:(p.2.kind=1∨p.2.kind=4)→p.2.mark.toList.isEmpty=false→∃ x∈l,marksB x=true∧x.mark=p.2.mark∧x.unit=p.2.unit:=fun hk hne=>⟨p.2,hin,by
  unfold marksB
  rw[hne]
  rcases hk with h|h<;>rw[h]<;>rfl,rfl,rfl⟩
 refine newT_im ht (fun h1=>hm (.inl h1)) fun h1 h2 h5 h3 _=>hm (.inr ?_)
 rcases kinds_of hf with k|k|k|k|k|k<;>first|exact k|exact absurd k (by assumption)
theorem tree_units {l:List Opn} (h:AdmL l):∀ b∈(replayF l).1.brs,∃ x∈l,x.kind=1∧x.unit=b.id:=by
 have hz:(replayF l).2.2=0:=by rw[adm_tree h]
 refine replay_inv (fun t=>∀ b∈t.brs,∃ x∈l,x.kind=1∧x.unit=b.id) _ _ (fun b hb=>by cases hb) (fun p hp t ht h0=>?_) hz
 obtain⟨-,-,he,hf,h6,-⟩:=applyR_parts h0
 rw[he]
 intro b hb
 rcases newT_ids b hb with ⟨c,hc,e⟩|⟨h1,e⟩
 ·rw[← e];exact ht c hc
 ·exact⟨p.2,(countI_in hp).1,h1,e.symm⟩
theorem admit_apply {l:List Opn} {t:Tr} {o:Opn} (h:(admitT l t o).2.2=0) (h6:o.kind≠6):(applyR t o).2=0:=by
 have hf:=admit_fault h
 unfold admitT at h
 rw[if_neg (by rw[hf];decide),if_neg h6] at h
 by_cases hz:(applyR t o).2=0
 ·exact hz
 ·rw[if_pos hz] at h
  exact absurd h hz
end Go.Proofs.YtdochkemaiokfaaGreat
/- A mark belongs to one unit; what came by an accession stays in the tree, plainly. No condition. -/
namespace Go.Proofs.YtdochkemaiokfaaGreat
open Go.RowKit
theorem fault_more {l:List Opn} {o:Opn} (h:faultK l o=0):(o.kind=1→addE (evidF l) o.came=0)∧(marksB o && otherB l o)=false∧¬ (o.kind=5∧(evidF l).any (fun x=>x.unit == o.unit && x.acc != 0)=true):=by
 unfold faultK at h
 split at h
 ·cases h
 ·split at h
  ·cases h
  ·split at h
   ·cases h
   ·split at h
    ·rename_i h4
     exact absurd h h4.2
    ·rename_i h4
     split at h
     ·cases h
     ·rename_i h5
      split at h
      ·cases h
      ·rename_i h6
       refine⟨fun hk=>?_,by simpa using h5,h6⟩
       by_cases hz:addE (evidF l) o.came=0
       ·exact hz
       ·exact absurd ⟨hk,hz⟩ h4
theorem owner_some {l:List Opn} {m:ByteArray} {u:Int} (h:ownerF l m=some u):∃ x∈l,marksB x=true∧x.mark=m∧x.unit=u:=by
 unfold ownerF at h
 rw[Option.map_eq_some_iff] at h
 obtain⟨x,hx,rfl⟩:=h
 have h1:=List.mem_of_find?_eq_some hx
 have h2:=List.find?_some hx
 simp only [Bool.and_eq_true,decide_eq_true_eq] at h2
 exact⟨x,List.mem_reverse.1 h1,h2.1,h2.2,rfl⟩
theorem owner_none {l:List Opn} {m:ByteArray} (h:ownerF l m=none):∀ x∈l,marksB x=true→x.mark≠m:=by
 unfold ownerF at h
 rw[Option.map_eq_none_iff,List.find?_eq_none] at h
 intro x hx hm e
 refine h x (List.mem_reverse.2 hx) ?_
 rw[hm,decide_eq_true e]
 rfl
theorem mark_one {l:List Opn} (h:AdmL l):∀ x∈l,∀ y∈l,marksB x=true→marksB y=true→x.mark=y.mark→x.unit=y.unit:=by
 induction h with
 | nil=>intro x hx;cases hx
 | @snoc l o h ha ih =>
  obtain⟨-,hm,-⟩:=fault_more (admit_fault ha)
  have key:∀ x∈l,marksB x=true→marksB o=true→x.mark=o.mark→x.unit=o.unit:=by
   intro x hx h1 h2 he
   rw[h2,Bool.true_and] at hm
   unfold otherB at hm
   cases hw:ownerF l o.mark with
   | none=>exact absurd he (owner_none hw x hx h1)
   | some u =>
    rw[hw] at hm
    obtain⟨y,hy,h3,h4,h5⟩:=owner_some hw
    have hu:u=o.unit:=by simpa using hm
    rw[ih x hx y hy h1 h3 (by rw[he,h4]),h5,hu]
  intro x hx y hy h1 h2 he
  rcases List.mem_append.1 hx with hx1|hx1
  ·rcases List.mem_append.1 hy with hy1|hy1
   ·exact ih x hx1 y hy1 h1 h2 he
   ·obtain rfl:=List.mem_singleton.1 hy1
    exact key x hx1 h1 h2 he
  ·obtain rfl:=List.mem_singleton.1 hx1
   rcases List.mem_append.1 hy with hy1|hy1
   ·exact(key y hy1 h2 h1 he.symm).symm
   ·obtain rfl:=List.mem_singleton.1 hy1
    rfl
theorem owner_is {l:List Opn} (h:AdmL l) {x:Opn} (hx:x∈l) (hm:marksB x=true):ownerF l x.mark=some x.unit:=by
 cases hw:ownerF l x.mark with
 | none=>exact absurd rfl (owner_none hw x hx hm)
 | some u =>
  obtain⟨y,hy,h3,h4,h5⟩:=owner_some hw
  rw[← h5,mark_one h x hx y hy hm h3 h4.symm]
theorem prefix_marks {a b:List Opn} (h:AdmL (a++b)):∀ c∈(replayF a).1.brs,c.mark.toList.isEmpty=false→ownerF (a++b) c.mark=some c.id:=by
 intro c hc hne
 obtain⟨x,hx,hm,e1,e2⟩:=tree_marks (adm_pre b.length a b rfl h) c hc hne
 have:=owner_is h (List.mem_append.2 (.inl hx)) hm
 rw[e1,e2] at this
 exact this
/- The evidence. -/
theorem mem_insCm (c x:Cm):∀ l:List Cm,x∈insCm c l↔x=c∨x∈l
 | []=>by simp[insCm]
 | y::r=>by
  have ih:=mem_insCm c x r
  unfold insCm
  split
  ·rw[List.mem_cons,ih,List.mem_cons]
   constructor
   ·rintro (h|h|h)
    ·exact .inr (.inl h)
    ·exact .inl h
    ·exact .inr (.inr h)
   ·rintro (h|h|h)
    ·exact .inr (.inl h)
    ·exact .inl h
    ·exact .inr (.inr h)
  ·rw[List.mem_cons]
theorem len_insCm (c:Cm):∀ l:List Cm,(insCm c l).length=l.length+1
 | []=>rfl
 | y::r=>by
  unfold insCm
  split
  ·rw[List.length_cons,len_insCm c r,List.length_cons]
  ·rfl
theorem evid_snoc (l:List Opn) (o:Opn):evidF (l++[o])=if o.kind=1 then insCm o.came (evidF l) else evidF l:=by
 unfold evidF
 rw[List.filter_append]
 by_cases h:o.kind=1
 ·rw[if_pos h,List.filter_cons_of_pos (by simpa using h),List.filter_nil,List.foldl_append]
  rfl
 ·rw[if_neg h,List.filter_cons_of_neg (by simpa using h),List.filter_nil,List.append_nil]
theorem mem_evid (c:Cm):∀(n:Nat) (l:List Opn),l.length=n→(c∈evidF l↔∃ o∈l,o.kind=1∧o.came=c)
 | 0,l,hn=>by rw[List.eq_nil_of_length_eq_zero hn];simp[evidF]
 | n+1,l,hn=>by
  have hb:l≠[]:=by intro e;rw[e] at hn;cases hn
  have hl:l.dropLast.length=n:=by rw[List.length_dropLast];omega
  have ih:=mem_evid c n l.dropLast hl
  have hs:l=l.dropLast++[l.getLast hb]:=(List.dropLast_concat_getLast hb).symm
  generalize l.dropLast=m at ih hs
  generalize l.getLast hb=o at hs
  subst hs
  rw[evid_snoc]
  by_cases h:o.kind=1
  ·rw[if_pos h,mem_insCm,ih]
   constructor
   ·rintro (rfl|⟨x,hx,h1,h2⟩)
    ·exact⟨o,by simp,h,rfl⟩
    ·exact⟨x,by simp[hx],h1,h2⟩
   ·rintro ⟨x,hx,h1,h2⟩
    rcases List.mem_append.1 hx with hx|hx
    ·exact .inr ⟨x,hx,h1,h2⟩
    ·obtain rfl:=List.mem_singleton.1 hx
     exact .inl h2.symm
  ·rw[if_neg h,ih]
   constructor
   ·rintro ⟨x,hx,h1,h2⟩
    exact⟨x,by simp[hx],h1,h2⟩
   ·rintro ⟨x,hx,h1,h2⟩
    rcases List.mem_append.1 hx with hx|hx
    ·exact⟨x,hx,h1,h2⟩
    ·obtain rfl:=List.mem_singleton.1 hx
     exact absurd h1 h
theorem evid_in {l:List Opn} {o:Opn} (h:o∈l) (h1:o.kind=1):o.came∈evidF l:=(mem_evid _ _ l rfl).2 ⟨o,h,h1,rfl⟩
theorem addE_zero {l:List Cm} {c:Cm} (h:addE l c=0):l.length<256∧rightC [] l=true∧aloneC c=true∧(∀ x∈l,x.unit≠c.unit)∧clashF l c=0:=by
 unfold addE at h
 split at h
 ·cases h
 ·rename_i h1
  simp only [not_or,Bool.not_eq_false] at h1
  split at h
  ·cases h
  ·rename_i h2
   split at h
   ·cases h
   ·rename_i h3
    split at h
    ·rename_i h4
     exact absurd h h4
    ·rename_i h4
     split at h
     ·cases h
     ·refine⟨by omega,h1.2,by simpa using h2,fun x hx e=>h3 ?_,by simpa using h4⟩
      rw[List.any_eq_true]
      exact⟨x,hx,by simp[e]⟩
theorem insCm_asc (c:Cm):∀ l:List Cm,l.Pairwise (fun a b=>a.unit<b.unit)→(∀ x∈l,x.unit≠c.unit)→(insCm c l).Pairwise (fun a b=>a.unit<b.unit)
 | [],_,_=>by simp[insCm]
 | y::r,h,hn=>by
  obtain⟨h1,h2⟩:=List.pairwise_cons.1 h
  have ih:=insCm_asc c r h2 fun x hx=>hn x (List.mem_cons_of_mem _ hx)
  have hy:=hn y List.mem_cons_self
  unfold insCm
  split
  ·rename_i hlt
   refine List.pairwise_cons.2 ⟨fun x hx=>?_,ih⟩
   rcases (mem_insCm _ _ _).1 hx with rfl|hx
   ·exact hlt
   ·exact h1 x hx
  ·rename_i hge
   refine List.pairwise_cons.2 ⟨fun x hx=>?_,h⟩
   rcases List.mem_cons.1 hx with rfl|hx
   ·omega
   ·have:=h1 x hx;omega
theorem evid_asc {l:List Opn} (h:AdmL l):(evidF l).Pairwise fun a b=>a.unit<b.unit:=by
 induction h with
 | nil=>exact List.Pairwise.nil
 | @snoc l o h ha ih =>
  rw[evid_snoc]
  split
  ·rename_i hk
   exact insCm_asc _ _ ih (addE_zero ((fault_more (admit_fault ha)).1 hk)).2.2.2.1
  ·exact ih
def ofC (l:List Cm) (u:Int):Option Cm:=l.find? fun c=>c.unit == u
theorem ofC_in {l:List Cm} (h:l.Pairwise fun a b=>a.unit<b.unit) {c:Cm} (hc:c∈l):ofC l c.unit=some c:=by
 unfold ofC
 induction l with
 | nil=>cases hc
 | cons x r ih =>
  obtain⟨h1,h2⟩:=List.pairwise_cons.1 h
  rcases List.mem_cons.1 hc with rfl|hc1
  ·rw[List.find?_cons_of_pos (by simp)]
  ·have:=h1 c hc1
   rw[List.find?_cons_of_neg (by simp;omega)]
   exact ih h2 hc1
theorem none_removes {l:List Opn} (h:AdmL l):∀ p∈l,p.kind=1→p.acc≠0→∀ x∈l,x.kind=5→x.unit≠p.unit:=by
 have key:∀ l:List Opn,AdmL l→∀ x∈l,x.kind=5→∃ q∈l,q.kind=1∧q.unit=x.unit:=by
  intro l h
  induction h with
  | nil=>intro x hx;cases hx
  | @snoc l o h ha ih =>
   intro x hx hk
   rcases List.mem_append.1 hx with hx|hx
   ·obtain⟨q,hq,h1,h2⟩:=ih x hx hk
    exact⟨q,by simp[hq],h1,h2⟩
   ·obtain rfl:=List.mem_singleton.1 hx
    have h0:=admit_apply ha (by omega)
    obtain⟨-,-,-,-,-,hf⟩:=applyR_parts h0
    unfold faultO at hf
    rw[if_neg (by omega),if_neg (by omega),if_pos hk] at hf
    unfold faultR at hf
    cases hb:brFind (replayF l).1.brs x.unit with
    | none=>rw[hb] at hf;cases hf
    | some u =>
     obtain⟨hin,hid⟩:=find_in hb
     obtain⟨q,hq,h1,h2⟩:=tree_units h u hin
     exact⟨q,by simp[hq],h1,by rw[h2,hid]⟩
 induction h with
 | nil=>intro p hp;cases hp
 | @snoc l o h ha ih =>
  obtain⟨hadd,-,h5⟩:=fault_more (admit_fault ha)
  intro p hp hk hacc x hx hx5
  rcases List.mem_append.1 hp with hp1|hp1
  ·rcases List.mem_append.1 hx with hx1|hx1
   ·exact ih p hp1 hk hacc x hx1 hx5
   ·obtain rfl:=List.mem_singleton.1 hx1
    intro e
    refine h5 ⟨hx5,List.any_eq_true.2 ⟨_,evid_in hp1 hk,?_⟩⟩
    show(p.unit == x.unit && p.acc != 0)=true
    rw[e]
    simpa using hacc
  ·obtain rfl:=List.mem_singleton.1 hp1
   rcases List.mem_append.1 hx with hx1|hx1
   ·intro e
    obtain⟨q,hq,h1,h2⟩:=key l h x hx1 hx5
    exact(addE_zero (hadd hk)).2.2.2.1 _ (evid_in hq h1) (by show q.unit=p.unit;rw[h2,e])
   ·rw[List.mem_singleton.1 hx1] at hx5
    omega
theorem replay_has (n:Int):∀(a:List (Int × Opn)) (t:Tr),(∀ p∈a,¬ (p.2.kind=5∧p.2.unit=n))→((∃ b∈t.brs,b.id=n)∨∃ p∈a,p.2.kind=1∧p.2.unit=n)→(replayI a t).2.2=0→∃ b∈(replayI a t).1.brs,b.id=n
 | [],t,_,h,_=>by
  rcases h with h|⟨p,hp,-⟩
  ·exact h
  ·cases hp
 | (i,o)::a,t,h5,h,hz=>by
  rw[replayI] at hz ⊢
  by_cases h0:(applyR t o).2=0
  ·rw[if_pos h0] at hz ⊢
   have he:=(applyR_parts h0).2.2.1
   refine replay_has n a _ (fun p hp=>h5 p (List.mem_cons_of_mem _ hp)) ?_ hz
   rcases h with h|⟨p,hp,h1,h2⟩
   ·left
    rw[he]
    exact newT_keeps h (h5 _ List.mem_cons_self)
   ·rcases List.mem_cons.1 hp with rfl|hp
    ·left
     rw[he,← h2]
     exact newT_new h1
    ·exact .inr ⟨p,hp,h1,h2⟩
  ·rw[if_neg h0] at hz
   exact absurd hz h0
theorem countI_of {l:List Opn} {p:Opn} (h:p∈l) (hc:countsB l p=true):∃ i,(i,p)∈countI l:=by
 have:p∈(countI l).map Prod.snd:=by
  rw[countI_snd]
  exact List.mem_filter.2 ⟨h,hc⟩
 obtain⟨⟨i,q⟩,hq,rfl⟩:=List.mem_map.1 this
 exact⟨i,hq⟩
theorem came_there {l:List Opn} (h:AdmL l):∀ c∈evidF l,c.acc≠0→∃ b∈(replayF l).1.brs,b.id=c.unit:=by
 intro c hc hacc
 obtain⟨p,hp,hk,rfl⟩:=(mem_evid _ _ l rfl).1 hc
 obtain⟨i,hi⟩:=countI_of hp (adm_held h p hp hk hacc)
 refine replay_has _ _ _ (fun q hq hc=>?_) (.inr ⟨_,hi,hk,rfl⟩) (by show(replayF l).2.2=0;rw[adm_tree h])
 exact none_removes h p hp hk hacc q.2 (countI_in hq).1 hc.1 hc.2
end Go.Proofs.YtdochkemaiokfaaGreat
/- undo: marks; the keeper's find and counts, walked. The conditions: the operations' numbers are numbers of an int; the log is not too long. -/
namespace Go.Proofs.YtdochkemaiokfaaGreat
open Go.RowKit Go.Shelf
attribute [local go_sem] Oper.semAt_some
theorem uMarks (o:Opn) (w:World):Calls Tryz.prog 68 #[o.agg] w fun e w'=>e=.returned (.bool (marksB o))∧Grew w w':=by
 obtain⟨o0,o1,o2,o3,o4,o5,o6,o7,o8,o9,o10,o11⟩:=o
 unfold Opn.agg marksB
 dsimp only
 cases h1:(o2 == 1)<;>cases h2:(o2 == 4)<;>cases h3:o8.toList.isEmpty
 all_goals
  go_enter Tryz.func68,Tryz.ntmps68
  go_wp2
  go_ret
  exact⟨rfl,(Grew.refl w).alloc _⟩
theorem uFind1 (IB:Nat) (id:Int) (x:Opn) (w:World) (h:w.cell? ⟨IB,0,none⟩=some (.int .i64 id)):Calls Tryz.prog 127 (#[x.agg] ++ #[.pointer (some ⟨IB,0,none⟩)]) w fun e w'=>e=.returned (.bool (x.id == id && x.kind != 6))∧Grew w w':=by
 obtain⟨o0,o1,o2,o3,o4,o5,o6,o7,o8,o9,o10,o11⟩:=x
 unfold Opn.agg
 dsimp only
 have h3:=keep_cell ((Grew.refl w).alloc (.cells #[.int .i64 o0,.int .i64 o1,.int .i64 o2,.int .i64 o3,.int .i64 o4,.int .i64 o5,.int .i64 o6,.string o7,.string o8,.int .i64 o9,.int .i64 o10,.int .i64 o11] 26)) h
 cases h1:(o0 == id)<;>cases h2:(o2 != 6)
 all_goals
  go_enter Tryz.func127,Tryz.ntmps127
  go_wp2
  go_ret
  exact⟨rfl,(Grew.refl w).alloc _⟩
theorem enters_uFind1:∀ args w,(callFunc 127 args).run Tryz.prog w=.ok (.enter 127 args) w:=enters_of Tryz.func127 (by kernel_rfl) rfl
def RetFO (R:Option Opn) (w:World) (e:Ending) (w':World):Prop:=e=.returned (.tuple #[(R.getD opn0).agg,.bool R.isSome])∧Grew w w'
theorem findO_idx (l:List Opn) (id:Int):(findO l id=none∧idxP (fun o=>o.id == id && o.kind != 6) l=-1)∨∃ k,∃ h:k<l.length,findO l id=some l[k]∧idxP (fun o=>o.id == id && o.kind != 6) l=(k:Int):=by
 by_cases h:l.any (fun o=>o.id == id && o.kind != 6)=true
 ·obtain⟨m,hm,h1,h2⟩:=idxP_find _ l h
  refine .inr ⟨m,hm,?_,idxP_hit _ l m hm h1 h2⟩
  unfold findO
  rw[List.find?_eq_some_iff_getElem]
  exact⟨h1,m,hm,rfl,fun j hj=>by rw[h2 j (by omega) hj];rfl⟩
 ·simp only [Bool.not_eq_true] at h
  refine .inl ⟨?_,idxP_miss _ l fun i hi=>?_⟩
  ·unfold findO
   rw[List.find?_eq_none]
   intro x hx
   rw[List.any_eq_false] at h
   exact h x hx
  ·rw[List.any_eq_false] at h
   have:=h l[i] (List.getElem_mem hi)
   simpa only [Bool.not_eq_true] using this
set_option maxHeartbeats 8000000 in
set_option maxRecDepth 100000 in
theorem uFind (l:List Opn) (id:Int) (lv:Value) (KB:Nat) (w:World) (hv:SlO w lv l) (hk:w.cell? ⟨KB,0,none⟩=some lv) (hlen:l.length≤1000000):Calls Tryz.prog 90 #[.pointer (some ⟨KB,0,none⟩),.int .i64 id] w (RetFO (findO l id) w):=by
 have kI:=fun IB W (hW:Grew w W) (h:∀ W2,Grew W W2→W2.cell? ⟨IB,0,none⟩=some (.int .i64 id))=>indexFuncO l (fun o=>o.id == id && o.kind != 6) _ #[.pointer (some ⟨IB,0,none⟩)] enters_uFind1 lv W (hv.mono hW) (fun W2 x hg _=>uFind1 IB id x W2 (h W2 hg))
 have hcase:=findO_idx l id
 obtain⟨A,c,rfl,hlc,hcap,hr⟩:=hv.open_
 unfold maxLen at hcap
 have HR:=Lib.hid hr
 have hG:=((Grew.refl w).alloc (.cells #[.int .i64 id] 3)).alloc (.cells #[.int .i64 0,.int .i64 0,.int .i64 0,.int .i64 0,.int .i64 0,.int .i64 0,.int .i64 0,.string ⟨#[]⟩,.string ⟨#[]⟩,.int .i64 0,.int .i64 0,.int .i64 0] 26)
 have HU:=Lib.hid (fun(W:World) (g:Grew ((w.alloc (.cells #[.int .i64 id] 3)).alloc (.cells #[.int .i64 0,.int .i64 0,.int .i64 0,.int .i64 0,.int .i64 0,.int .i64 0,.int .i64 0,.string ⟨#[]⟩,.string ⟨#[]⟩,.int .i64 0,.int .i64 0,.int .i64 0] 26)) W)=>(show W.cell? ⟨w.heap.size,0,none⟩=some (.int .i64 id) from new_cell (w:=w) (((Grew.refl _).alloc _).trans g) 0 _ rfl))
 have ka:=kI w.heap.size _ hG (fun W hW=>HU.out W hW)
 have HG0:=Lib.hid hG
 have HB:=Lib.hid (fun(W:World) (g:Grew ((w.alloc (.cells #[.int .i64 id] 3)).alloc (.cells #[.int .i64 0,.int .i64 0,.int .i64 0,.int .i64 0,.int .i64 0,.int .i64 0,.int .i64 0,.string ⟨#[]⟩,.string ⟨#[]⟩,.int .i64 0,.int .i64 0,.int .i64 0] 26)) W)=>(show W.heap[w.heap.size+1]? = some (.cells #[.int .i64 0,.int .i64 0,.int .i64 0,.int .i64 0,.int .i64 0,.int .i64 0,.int .i64 0,.string ⟨#[]⟩,.string ⟨#[]⟩,.int .i64 0,.int .i64 0,.int .i64 0] 26 (0,0)) from by
  have:=heapKeep g (heapNew (w.alloc (.cells #[.int .i64 id] 3)) (.cells #[.int .i64 0,.int .i64 0,.int .i64 0,.int .i64 0,.int .i64 0,.int .i64 0,.int .i64 0,.string ⟨#[]⟩,.string ⟨#[]⟩,.int .i64 0,.int .i64 0,.int .i64 0] 26))
  rwa [World.size_alloc] at this))
 have k1:=keep_cell hG hk
 have HK1:=Lib.hid k1
 generalize idxP (fun o=>o.id == id && o.kind != 6) l=ix at ka hcase
 have KA:=Lib.hid ka
 clear kI hr hv ka HU hG hk
 rcases hcase with ⟨ho,rfl⟩|⟨k,hk,ho,rfl⟩
 ·rw[ho]
  clear ho
  unfold RetFO opn0
  dsimp only [Option.getD_none,Option.isSome_none,Opn.agg]
  go_enter Tryz.func90,Tryz.ntmps90
  go_wp2_with fail
  refine KA.out.mono ?_
  rintro e w1 ⟨rfl,g1⟩
  have hb:=HB.out w1 g1
  have q0:w1.cell? ⟨w.heap.size+1,0,none⟩=some (.int .i64 0):=cellOf hb rfl
  have z0:w1.frozen? ⟨w.heap.size+1,0,none⟩=false:=freeOf hb
  have q1:w1.cell? ⟨w.heap.size+1,1,none⟩=some (.int .i64 0):=cellOf hb rfl
  have z1:w1.frozen? ⟨w.heap.size+1,1,none⟩=false:=freeOf hb
  have q2:w1.cell? ⟨w.heap.size+1,2,none⟩=some (.int .i64 0):=cellOf hb rfl
  have z2:w1.frozen? ⟨w.heap.size+1,2,none⟩=false:=freeOf hb
  have q3:w1.cell? ⟨w.heap.size+1,3,none⟩=some (.int .i64 0):=cellOf hb rfl
  have z3:w1.frozen? ⟨w.heap.size+1,3,none⟩=false:=freeOf hb
  have q4:w1.cell? ⟨w.heap.size+1,4,none⟩=some (.int .i64 0):=cellOf hb rfl
  have z4:w1.frozen? ⟨w.heap.size+1,4,none⟩=false:=freeOf hb
  have q5:w1.cell? ⟨w.heap.size+1,5,none⟩=some (.int .i64 0):=cellOf hb rfl
  have z5:w1.frozen? ⟨w.heap.size+1,5,none⟩=false:=freeOf hb
  have q6:w1.cell? ⟨w.heap.size+1,6,none⟩=some (.int .i64 0):=cellOf hb rfl
  have z6:w1.frozen? ⟨w.heap.size+1,6,none⟩=false:=freeOf hb
  have q7:w1.cell? ⟨w.heap.size+1,7,none⟩=some (.string ⟨#[]⟩):=cellOf hb rfl
  have z7:w1.frozen? ⟨w.heap.size+1,7,none⟩=false:=freeOf hb
  have q8:w1.cell? ⟨w.heap.size+1,8,none⟩=some (.string ⟨#[]⟩):=cellOf hb rfl
  have z8:w1.frozen? ⟨w.heap.size+1,8,none⟩=false:=freeOf hb
  have q9:w1.cell? ⟨w.heap.size+1,9,none⟩=some (.int .i64 0):=cellOf hb rfl
  have z9:w1.frozen? ⟨w.heap.size+1,9,none⟩=false:=freeOf hb
  have q10:w1.cell? ⟨w.heap.size+1,10,none⟩=some (.int .i64 0):=cellOf hb rfl
  have z10:w1.frozen? ⟨w.heap.size+1,10,none⟩=false:=freeOf hb
  have q11:w1.cell? ⟨w.heap.size+1,11,none⟩=some (.int .i64 0):=cellOf hb rfl
  have z11:w1.frozen? ⟨w.heap.size+1,11,none⟩=false:=freeOf hb
  have hs:=set12 hb (.int .i64 0) (.int .i64 0) (.int .i64 0) (.int .i64 0) (.int .i64 0) (.int .i64 0) (.int .i64 0) (.string ⟨#[]⟩) (.string ⟨#[]⟩) (.int .i64 0) (.int .i64 0) (.int .i64 0)
  have r0:=cellOf (i:=0) (x:=.int .i64 0) hs rfl
  have r1:=cellOf (i:=1) (x:=.int .i64 0) hs rfl
  have r2:=cellOf (i:=2) (x:=.int .i64 0) hs rfl
  have r3:=cellOf (i:=3) (x:=.int .i64 0) hs rfl
  have r4:=cellOf (i:=4) (x:=.int .i64 0) hs rfl
  have r5:=cellOf (i:=5) (x:=.int .i64 0) hs rfl
  have r6:=cellOf (i:=6) (x:=.int .i64 0) hs rfl
  have r7:=cellOf (i:=7) (x:=.string ⟨#[]⟩) hs rfl
  have r8:=cellOf (i:=8) (x:=.string ⟨#[]⟩) hs rfl
  have r9:=cellOf (i:=9) (x:=.int .i64 0) hs rfl
  have r10:=cellOf (i:=10) (x:=.int .i64 0) hs rfl
  have r11:=cellOf (i:=11) (x:=.int .i64 0) hs rfl
  have HG1:=Lib.hid (HG0.out.trans g1)
  have HGW:=Lib.hid (show Grew w ((((((((((((w1.setCell ⟨w.heap.size+1,0,none⟩ (.int .i64 0)).setCell ⟨w.heap.size+1,1,none⟩ (.int .i64 0)).setCell ⟨w.heap.size+1,2,none⟩ (.int .i64 0)).setCell ⟨w.heap.size+1,3,none⟩ (.int .i64 0)).setCell ⟨w.heap.size+1,4,none⟩ (.int .i64 0)).setCell ⟨w.heap.size+1,5,none⟩ (.int .i64 0)).setCell ⟨w.heap.size+1,6,none⟩ (.int .i64 0)).setCell ⟨w.heap.size+1,7,none⟩ (.string ⟨#[]⟩)).setCell ⟨w.heap.size+1,8,none⟩ (.string ⟨#[]⟩)).setCell ⟨w.heap.size+1,9,none⟩ (.int .i64 0)).setCell ⟨w.heap.size+1,10,none⟩ (.int .i64 0)).setCell ⟨w.heap.size+1,11,none⟩ (.int .i64 0)) from grew12B HG1.out (Nat.le_succ _) _ _ _ _ _ _ _ _ _ _ _ _)
  have HRR:=Lib.hid (And.intro r0 (And.intro r1 (And.intro r2 (And.intro r3 (And.intro r4 (And.intro r5 (And.intro r6 (And.intro r7 (And.intro r8 (And.intro r9 (And.intro r10 (r11))))))))))))
  clear hs hb g1 k1 r0 r1 r2 r3 r4 r5 r6 r7 r8 r9 r10 r11
  dsimp only
  go_wp2
  obtain⟨r0,r1,r2,r3,r4,r5,r6,r7,r8,r9,r10,r11⟩:=HRR.out
  generalize ((((((((((((w1.setCell ⟨w.heap.size+1,0,none⟩ (.int .i64 0)).setCell ⟨w.heap.size+1,1,none⟩ (.int .i64 0)).setCell ⟨w.heap.size+1,2,none⟩ (.int .i64 0)).setCell ⟨w.heap.size+1,3,none⟩ (.int .i64 0)).setCell ⟨w.heap.size+1,4,none⟩ (.int .i64 0)).setCell ⟨w.heap.size+1,5,none⟩ (.int .i64 0)).setCell ⟨w.heap.size+1,6,none⟩ (.int .i64 0)).setCell ⟨w.heap.size+1,7,none⟩ (.string ⟨#[]⟩)).setCell ⟨w.heap.size+1,8,none⟩ (.string ⟨#[]⟩)).setCell ⟨w.heap.size+1,9,none⟩ (.int .i64 0)).setCell ⟨w.heap.size+1,10,none⟩ (.int .i64 0)).setCell ⟨w.heap.size+1,11,none⟩ (.int .i64 0))=WW at r0 r1 r2 r3 r4 r5 r6 r7 r8 r9 r10 r11 HGW ⊢
  refine bodyPost_ret (v:=.tuple #[.agg #[.int .i64 0,.int .i64 0,.int .i64 0,.int .i64 0,.int .i64 0,.int .i64 0,.int .i64 0,.string ⟨#[]⟩,.string ⟨#[]⟩,.int .i64 0,.int .i64 0,.int .i64 0],.bool false]) ?_ ?_ ?_
  ·simp[results,Tryz.results90,go_sem,r0,r1,r2,r3,r4,r5,r6,r7,r8,r9,r10,r11]
  ·rfl
  ·exact⟨rfl,HGW.out⟩
 ·rw[ho]
  clear ho
  have hkz:(k:Int)<(l.length:Int):=by omega
  obtain⟨b,off,rfl,hbb,hcell⟩:=HR.out (by omega)
  have hck:=fun W hW=>hcell W hW k hk
  clear hcell
  generalize l[k]=y at hck ⊢
  obtain⟨o0,o1,o2,o3,o4,o5,o6,o7,o8,o9,o10,o11⟩:=y
  have HCK:=Lib.hid hck
  clear hck
  unfold RetFO
  dsimp only [Option.getD_some,Option.isSome_some,Opn.agg]
  go_enter Tryz.func90,Tryz.ntmps90
  go_wp2_with fail
  refine KA.out.mono ?_
  rintro e w1 ⟨rfl,g1⟩
  have hb:=HB.out w1 g1
  have q0:w1.cell? ⟨w.heap.size+1,0,none⟩=some (.int .i64 0):=cellOf hb rfl
  have z0:w1.frozen? ⟨w.heap.size+1,0,none⟩=false:=freeOf hb
  have q1:w1.cell? ⟨w.heap.size+1,1,none⟩=some (.int .i64 0):=cellOf hb rfl
  have z1:w1.frozen? ⟨w.heap.size+1,1,none⟩=false:=freeOf hb
  have q2:w1.cell? ⟨w.heap.size+1,2,none⟩=some (.int .i64 0):=cellOf hb rfl
  have z2:w1.frozen? ⟨w.heap.size+1,2,none⟩=false:=freeOf hb
  have q3:w1.cell? ⟨w.heap.size+1,3,none⟩=some (.int .i64 0):=cellOf hb rfl
  have z3:w1.frozen? ⟨w.heap.size+1,3,none⟩=false:=freeOf hb
  have q4:w1.cell? ⟨w.heap.size+1,4,none⟩=some (.int .i64 0):=cellOf hb rfl
  have z4:w1.frozen? ⟨w.heap.size+1,4,none⟩=false:=freeOf hb
  have q5:w1.cell? ⟨w.heap.size+1,5,none⟩=some (.int .i64 0):=cellOf hb rfl
  have z5:w1.frozen? ⟨w.heap.size+1,5,none⟩=false:=freeOf hb
  have q6:w1.cell? ⟨w.heap.size+1,6,none⟩=some (.int .i64 0):=cellOf hb rfl
  have z6:w1.frozen? ⟨w.heap.size+1,6,none⟩=false:=freeOf hb
  have q7:w1.cell? ⟨w.heap.size+1,7,none⟩=some (.string ⟨#[]⟩):=cellOf hb rfl
  have z7:w1.frozen? ⟨w.heap.size+1,7,none⟩=false:=freeOf hb
  have q8:w1.cell? ⟨w.heap.size+1,8,none⟩=some (.string ⟨#[]⟩):=cellOf hb rfl
  have z8:w1.frozen? ⟨w.heap.size+1,8,none⟩=false:=freeOf hb
  have q9:w1.cell? ⟨w.heap.size+1,9,none⟩=some (.int .i64 0):=cellOf hb rfl
  have z9:w1.frozen? ⟨w.heap.size+1,9,none⟩=false:=freeOf hb
  have q10:w1.cell? ⟨w.heap.size+1,10,none⟩=some (.int .i64 0):=cellOf hb rfl
  have z10:w1.frozen? ⟨w.heap.size+1,10,none⟩=false:=freeOf hb
  have q11:w1.cell? ⟨w.heap.size+1,11,none⟩=some (.int .i64 0):=cellOf hb rfl
  have z11:w1.frozen? ⟨w.heap.size+1,11,none⟩=false:=freeOf hb
  have hs:=set12 hb (.int .i64 o0) (.int .i64 o1) (.int .i64 o2) (.int .i64 o3) (.int .i64 o4) (.int .i64 o5) (.int .i64 o6) (.string o7) (.string o8) (.int .i64 o9) (.int .i64 o10) (.int .i64 o11)
  have r0:=cellOf (i:=0) (x:=.int .i64 o0) hs rfl
  have r1:=cellOf (i:=1) (x:=.int .i64 o1) hs rfl
  have r2:=cellOf (i:=2) (x:=.int .i64 o2) hs rfl
  have r3:=cellOf (i:=3) (x:=.int .i64 o3) hs rfl
  have r4:=cellOf (i:=4) (x:=.int .i64 o4) hs rfl
  have r5:=cellOf (i:=5) (x:=.int .i64 o5) hs rfl
  have r6:=cellOf (i:=6) (x:=.int .i64 o6) hs rfl
  have r7:=cellOf (i:=7) (x:=.string o7) hs rfl
  have r8:=cellOf (i:=8) (x:=.string o8) hs rfl
  have r9:=cellOf (i:=9) (x:=.int .i64 o9) hs rfl
  have r10:=cellOf (i:=10) (x:=.int .i64 o10) hs rfl
  have r11:=cellOf (i:=11) (x:=.int .i64 o11) hs rfl
  have HG1:=Lib.hid (HG0.out.trans g1)
  obtain⟨c0,c1,c2,c3,c4,c5,c6,c7,c8,c9,c10,c11⟩:=HCK.out w1 HG1.out
  have k2:=keep_cell g1 HK1.out
  have HGW:=Lib.hid (show Grew w ((((((((((((w1.setCell ⟨w.heap.size+1,0,none⟩ (.int .i64 o0)).setCell ⟨w.heap.size+1,1,none⟩ (.int .i64 o1)).setCell ⟨w.heap.size+1,2,none⟩ (.int .i64 o2)).setCell ⟨w.heap.size+1,3,none⟩ (.int .i64 o3)).setCell ⟨w.heap.size+1,4,none⟩ (.int .i64 o4)).setCell ⟨w.heap.size+1,5,none⟩ (.int .i64 o5)).setCell ⟨w.heap.size+1,6,none⟩ (.int .i64 o6)).setCell ⟨w.heap.size+1,7,none⟩ (.string o7)).setCell ⟨w.heap.size+1,8,none⟩ (.string o8)).setCell ⟨w.heap.size+1,9,none⟩ (.int .i64 o9)).setCell ⟨w.heap.size+1,10,none⟩ (.int .i64 o10)).setCell ⟨w.heap.size+1,11,none⟩ (.int .i64 o11)) from grew12B HG1.out (Nat.le_succ _) _ _ _ _ _ _ _ _ _ _ _ _)
  have HRR:=Lib.hid (And.intro r0 (And.intro r1 (And.intro r2 (And.intro r3 (And.intro r4 (And.intro r5 (And.intro r6 (And.intro r7 (And.intro r8 (And.intro r9 (And.intro r10 (r11))))))))))))
  clear hs hb g1 k1 r0 r1 r2 r3 r4 r5 r6 r7 r8 r9 r10 r11
  dsimp only
  go_wp2
  obtain⟨r0,r1,r2,r3,r4,r5,r6,r7,r8,r9,r10,r11⟩:=HRR.out
  generalize ((((((((((((w1.setCell ⟨w.heap.size+1,0,none⟩ (.int .i64 o0)).setCell ⟨w.heap.size+1,1,none⟩ (.int .i64 o1)).setCell ⟨w.heap.size+1,2,none⟩ (.int .i64 o2)).setCell ⟨w.heap.size+1,3,none⟩ (.int .i64 o3)).setCell ⟨w.heap.size+1,4,none⟩ (.int .i64 o4)).setCell ⟨w.heap.size+1,5,none⟩ (.int .i64 o5)).setCell ⟨w.heap.size+1,6,none⟩ (.int .i64 o6)).setCell ⟨w.heap.size+1,7,none⟩ (.string o7)).setCell ⟨w.heap.size+1,8,none⟩ (.string o8)).setCell ⟨w.heap.size+1,9,none⟩ (.int .i64 o9)).setCell ⟨w.heap.size+1,10,none⟩ (.int .i64 o10)).setCell ⟨w.heap.size+1,11,none⟩ (.int .i64 o11))=WW at r0 r1 r2 r3 r4 r5 r6 r7 r8 r9 r10 r11 HGW ⊢
  refine bodyPost_ret (v:=.tuple #[.agg #[.int .i64 o0,.int .i64 o1,.int .i64 o2,.int .i64 o3,.int .i64 o4,.int .i64 o5,.int .i64 o6,.string o7,.string o8,.int .i64 o9,.int .i64 o10,.int .i64 o11],.bool true]) ?_ ?_ ?_
  ·simp[results,Tryz.results90,go_sem,r0,r1,r2,r3,r4,r5,r6,r7,r8,r9,r10,r11]
  ·rfl
  ·exact⟨rfl,HGW.out⟩
end Go.Proofs.YtdochkemaiokfaaGreat
/- slices.DeleteFunc at operations, on a row of the call's own. No condition but that the function that is handed over answers as p does. -/
namespace Go.Proofs.YtdochkemaiokfaaGreat
open Go.RowKit
set_option maxHeartbeats 2000000 in
theorem deleteFuncO (l:List Opn) (p:Opn→Bool) (gf:Nat) (lb:Array Value) (eg:∀ args w,(callFunc gf args).run Tryz.prog w=.ok (.enter gf args) w) (base:Nat) (v:Value) (w:World) (hbase:base≤w.heap.size)
  (hown:w.ownsRow base 26 12 v l.length (l.flatMap Opn.cells))
  (hp:∀ W x,Below base w W→x∈l→Calls Tryz.prog gf (#[x.agg]++lb) W fun e w'=>e=.returned (.bool (p x))∧Grew W w') :
  Calls Tryz.prog 36 #[v,.func (.func gf) #[] lb] w fun e w'=>∃ v',e=.returned v'∧w'.ownsRow base 26 12 v' (l.filter fun x=>!p x).length ((l.filter fun x=>!p x).flatMap Opn.cells)∧Below base w w':=by
 have hix:=indexFuncO l p gf lb eg v w (Rd.of_own hown) (fun W x hW hx=>hp W x (hW.below.mono hbase) hx)
 by_cases hany:l.any p=true
 case neg =>
  simp only [Bool.not_eq_true] at hany
  have hid:l.filter (fun x=>!p x)=l:=List.filter_eq_self.2 (fun x hx=>by
   rw[List.any_eq_false] at hany
   simpa using hany x hx)
  have hm:idxP p l=-1:=idxP_miss p l (fun i hi=>by
   rw[List.any_eq_false] at hany
   simpa using hany l[i] (List.getElem_mem hi))
  rw[hid]
  rw[hm] at hix
  have HX:=Lib.hid hix
  have HO:=Lib.hid hown
  generalize l.flatMap Opn.cells=cs at HO ⊢
  clear hix hown hp hid hm hany
  go_enter Tryz.func36,Tryz.ntmps36
  go_wp2_with (first|(go_at_call 59;refine HX.out.mono ?_;rintro e w1 ⟨rfl,hg⟩))
  go_ret
  exact⟨v,rfl,own_later HO.out hg,hg.below.mono hbase⟩
 case pos =>
  obtain⟨m,hm,hpm,hbef⟩:=idxP_find p l hany
  have he:idxP p l=(m:Int):=idxP_hit p l m hm hpm hbef
  rw[he] at hix
  obtain⟨g,cap,hv,hbg,hglt,hcap⟩:=own_form hown (by omega)
  subst hv
  have hcm:cap≤maxLen:=own_max hown
  unfold maxLen at hcm
  have DI0:DelInv 12 Opn.cells l (fun x=>!p x) (l.flatMap Opn.cells) m (m+1):=DelInv.start (f:=Opn.cells) (fun _=>rfl) m hm (by simp[hpm]) (fun t ht h=>by simp[hbef t ht h])
  have HX:=Lib.hid hix
  have HO:=Lib.hid hown
  have HP:=Lib.hid hp
  have HD:=Lib.hid DI0
  have hneg:((m:Int) == -1)=false:=beq_eq_false_iff_ne.2 (by omega)
  clear hix hown hp DI0 he hpm hbef hany
  go_enter Tryz.func36,Tryz.ntmps36
  go_wp2_with (first|(go_at_call 59;refine HX.out.mono ?_;rintro e w1 ⟨rfl,hg⟩))
  go_loopg [5,6] l.length (fun gg s5 s6 wr=>∃ ii jj:Nat,ii<jj∧jj≤l.length∧l.length-jj≤gg∧s5=.int .i64 ii∧s6=.int .i64 jj∧Aside (Below base w wr)∧Aside (∃ ds,wr.ownsRow base 26 12 (.slice (some ⟨g,0,none⟩) l.length cap) l.length ds∧DelInv 12 Opn.cells l (fun x=>!p x) ds ii jj))
  case atStart=>exact⟨m,m+1,by omega,by omega,by omega,rfl,by go_num,hg.below.mono hbase,_,own_later HO.out hg,HD.out⟩
  case round =>
   obtain⟨ii,jj,hij,hjl,hgk,rfl,rfl,BW,hds⟩:=hrel
   obtain⟨ds,ho,DI0⟩:=hds.out
   have DI:=Lib.hid DI0
   clear hds DI0
   by_cases hlt:jj<l.length
   ·have hltz:(jj:Int)<(l.length:Int):=by omega
    have c0:wr.cell? ⟨g,jj*12,none⟩=some (.int .i64 l[jj].id):=by
     have h1:=ho.cellAt (jj*12+0) (by omega)
     have h2:=DelInv.at_ (f:=Opn.cells) DI.out (fun _=>rfl) hlt 0 (by omega)
     rw[h2] at h1
     simpa [Opn.cells] using h1
    have c1:wr.cell? ⟨g,jj*12+1,none⟩=some (.int .i64 l[jj].day):=by
     have h1:=ho.cellAt (jj*12+1) (by omega)
     have h2:=DelInv.at_ (f:=Opn.cells) DI.out (fun _=>rfl) hlt 1 (by omega)
     rw[h2] at h1
     simpa [Opn.cells] using h1
    have c2:wr.cell? ⟨g,jj*12+2,none⟩=some (.int .i64 l[jj].kind):=by
     have h1:=ho.cellAt (jj*12+2) (by omega)
     have h2:=DelInv.at_ (f:=Opn.cells) DI.out (fun _=>rfl) hlt 2 (by omega)
     rw[h2] at h1
     simpa [Opn.cells] using h1
    have c3:wr.cell? ⟨g,jj*12+3,none⟩=some (.int .i64 l[jj].unit):=by
     have h1:=ho.cellAt (jj*12+3) (by omega)
     have h2:=DelInv.at_ (f:=Opn.cells) DI.out (fun _=>rfl) hlt 3 (by omega)
     rw[h2] at h1
     simpa [Opn.cells] using h1
    have c4:wr.cell? ⟨g,jj*12+4,none⟩=some (.int .i64 l[jj].parent):=by
     have h1:=ho.cellAt (jj*12+4) (by omega)
     have h2:=DelInv.at_ (f:=Opn.cells) DI.out (fun _=>rfl) hlt 4 (by omega)
     rw[h2] at h1
     simpa [Opn.cells] using h1
    have c5:wr.cell? ⟨g,jj*12+5,none⟩=some (.int .i64 l[jj].before):=by
     have h1:=ho.cellAt (jj*12+5) (by omega)
     have h2:=DelInv.at_ (f:=Opn.cells) DI.out (fun _=>rfl) hlt 5 (by omega)
     rw[h2] at h1
     simpa [Opn.cells] using h1
    have c6:wr.cell? ⟨g,jj*12+6,none⟩=some (.int .i64 l[jj].level):=by
     have h1:=ho.cellAt (jj*12+6) (by omega)
     have h2:=DelInv.at_ (f:=Opn.cells) DI.out (fun _=>rfl) hlt 6 (by omega)
     rw[h2] at h1
     simpa [Opn.cells] using h1
    have c7:wr.cell? ⟨g,jj*12+7,none⟩=some (.string l[jj].title):=by
     have h1:=ho.cellAt (jj*12+7) (by omega)
     have h2:=DelInv.at_ (f:=Opn.cells) DI.out (fun _=>rfl) hlt 7 (by omega)
     rw[h2] at h1
     simpa [Opn.cells] using h1
    have c8:wr.cell? ⟨g,jj*12+8,none⟩=some (.string l[jj].mark):=by
     have h1:=ho.cellAt (jj*12+8) (by omega)
     have h2:=DelInv.at_ (f:=Opn.cells) DI.out (fun _=>rfl) hlt 8 (by omega)
     rw[h2] at h1
     simpa [Opn.cells] using h1
    have c9:wr.cell? ⟨g,jj*12+9,none⟩=some (.int .i64 l[jj].office):=by
     have h1:=ho.cellAt (jj*12+9) (by omega)
     have h2:=DelInv.at_ (f:=Opn.cells) DI.out (fun _=>rfl) hlt 9 (by omega)
     rw[h2] at h1
     simpa [Opn.cells] using h1
    have c10:wr.cell? ⟨g,jj*12+10,none⟩=some (.int .i64 l[jj].acc):=by
     have h1:=ho.cellAt (jj*12+10) (by omega)
     have h2:=DelInv.at_ (f:=Opn.cells) DI.out (fun _=>rfl) hlt 10 (by omega)
     rw[h2] at h1
     simpa [Opn.cells] using h1
    have c11:wr.cell? ⟨g,jj*12+11,none⟩=some (.int .i64 l[jj].num):=by
     have h1:=ho.cellAt (jj*12+11) (by omega)
     have h2:=DelInv.at_ (f:=Opn.cells) DI.out (fun _=>rfl) hlt 11 (by omega)
     rw[h2] at h1
     simpa [Opn.cells] using h1
    have hcall:=HP.out (wr.alloc (.cells #[.int .i64 l[jj].id,.int .i64 l[jj].day,.int .i64 l[jj].kind,.int .i64 l[jj].unit,.int .i64 l[jj].parent,.int .i64 l[jj].before,.int .i64 l[jj].level,.string l[jj].title,.string l[jj].mark,.int .i64 l[jj].office,.int .i64 l[jj].acc,.int .i64 l[jj].num] 26)) l[jj] (BW.out.alloc (Nat.le_trans hbase BW.out.size) _) (List.getElem_mem hlt)
    have HOr:=Lib.hid ho
    have Hlt:=Lib.hid hlt
    generalize hy:l[jj]=y at c0 c1 c2 c3 c4 c5 c6 c7 c8 c9 c10 c11 hcall
    have B:Aside (l[jj]=y):=hy
    clear hy ho
    unfold Opn.agg at hcall
    cases hq:p y with
    | true =>
     have Hq:Aside (p y=true):=hq
     rw[hq] at hcall
     go_wp2_with (go_at_fn gf;refine hcall.mono ?_;rintro e w' ⟨rfl,hb'⟩)
     go_roundg (l.length-(jj+1))
     case measure=>omega
     case rel=>exact⟨ii,jj+1,by omega,by omega,by omega,rfl,by go_num,(show Aside _ from BW.out.trans ((((Grew.refl wr).alloc _).trans hb').below.mono (Nat.le_trans hbase BW.out.size))),(show Aside _ from⟨ds,own_later HOr.out (((Grew.refl wr).alloc _).trans hb'),DI.out.skip Hlt.out (by have h:l[jj]'Hlt.out=y:=B.out;rw[h,Hq.out];rfl)⟩)⟩
    | false =>
     have Hq:Aside (p y=false):=hq
     rw[hq] at hcall
     go_wp2_with fail
     refine hcall.mono ?_
     rintro e w' ⟨rfl,hb'⟩
     have ho':=own_later HOr.out (((Grew.refl wr).alloc _).trans hb')
     have d0:w'.cell? ⟨wr.heap.size,0,none⟩=some (.int .i64 y.id):=(hb'.cell (p:=⟨wr.heap.size,0,none⟩) (by simp)).trans (by simp)
     have d1:w'.cell? ⟨wr.heap.size,1,none⟩=some (.int .i64 y.day):=(hb'.cell (p:=⟨wr.heap.size,1,none⟩) (by simp)).trans (by simp)
     have d2:w'.cell? ⟨wr.heap.size,2,none⟩=some (.int .i64 y.kind):=(hb'.cell (p:=⟨wr.heap.size,2,none⟩) (by simp)).trans (by simp)
     have d3:w'.cell? ⟨wr.heap.size,3,none⟩=some (.int .i64 y.unit):=(hb'.cell (p:=⟨wr.heap.size,3,none⟩) (by simp)).trans (by simp)
     have d4:w'.cell? ⟨wr.heap.size,4,none⟩=some (.int .i64 y.parent):=(hb'.cell (p:=⟨wr.heap.size,4,none⟩) (by simp)).trans (by simp)
     have d5:w'.cell? ⟨wr.heap.size,5,none⟩=some (.int .i64 y.before):=(hb'.cell (p:=⟨wr.heap.size,5,none⟩) (by simp)).trans (by simp)
     have d6:w'.cell? ⟨wr.heap.size,6,none⟩=some (.int .i64 y.level):=(hb'.cell (p:=⟨wr.heap.size,6,none⟩) (by simp)).trans (by simp)
     have d7:w'.cell? ⟨wr.heap.size,7,none⟩=some (.string y.title):=(hb'.cell (p:=⟨wr.heap.size,7,none⟩) (by simp)).trans (by simp)
     have d8:w'.cell? ⟨wr.heap.size,8,none⟩=some (.string y.mark):=(hb'.cell (p:=⟨wr.heap.size,8,none⟩) (by simp)).trans (by simp)
     have d9:w'.cell? ⟨wr.heap.size,9,none⟩=some (.int .i64 y.office):=(hb'.cell (p:=⟨wr.heap.size,9,none⟩) (by simp)).trans (by simp)
     have d10:w'.cell? ⟨wr.heap.size,10,none⟩=some (.int .i64 y.acc):=(hb'.cell (p:=⟨wr.heap.size,10,none⟩) (by simp)).trans (by simp)
     have d11:w'.cell? ⟨wr.heap.size,11,none⟩=some (.int .i64 y.num):=(hb'.cell (p:=⟨wr.heap.size,11,none⟩) (by simp)).trans (by simp)
     obtain⟨u0,_,hu0⟩:=own_cell ho' (ii*12+0) (by omega)
     have hf0:=ho'.frozenAt (ii*12+0)
     obtain⟨u1,_,hu1⟩:=own_cell ho' (ii*12+1) (by omega)
     have hf1:=ho'.frozenAt (ii*12+1)
     obtain⟨u2,_,hu2⟩:=own_cell ho' (ii*12+2) (by omega)
     have hf2:=ho'.frozenAt (ii*12+2)
     obtain⟨u3,_,hu3⟩:=own_cell ho' (ii*12+3) (by omega)
     have hf3:=ho'.frozenAt (ii*12+3)
     obtain⟨u4,_,hu4⟩:=own_cell ho' (ii*12+4) (by omega)
     have hf4:=ho'.frozenAt (ii*12+4)
     obtain⟨u5,_,hu5⟩:=own_cell ho' (ii*12+5) (by omega)
     have hf5:=ho'.frozenAt (ii*12+5)
     obtain⟨u6,_,hu6⟩:=own_cell ho' (ii*12+6) (by omega)
     have hf6:=ho'.frozenAt (ii*12+6)
     obtain⟨u7,_,hu7⟩:=own_cell ho' (ii*12+7) (by omega)
     have hf7:=ho'.frozenAt (ii*12+7)
     obtain⟨u8,_,hu8⟩:=own_cell ho' (ii*12+8) (by omega)
     have hf8:=ho'.frozenAt (ii*12+8)
     obtain⟨u9,_,hu9⟩:=own_cell ho' (ii*12+9) (by omega)
     have hf9:=ho'.frozenAt (ii*12+9)
     obtain⟨u10,_,hu10⟩:=own_cell ho' (ii*12+10) (by omega)
     have hf10:=ho'.frozenAt (ii*12+10)
     obtain⟨u11,_,hu11⟩:=own_cell ho' (ii*12+11) (by omega)
     have hf11:=ho'.frozenAt (ii*12+11)
     simp only [Nat.add_zero] at hu0 hf0
     have HO':=Lib.hid ho'
     clear ho'
     go_wp2
     obtain⟨ds1,hD1,hG1,hL1,hA1,hB1⟩:=own_setCells (Opn.cells y) (ii*12) w' ds HO'.out
     go_roundg (l.length-(jj+1))
     case measure=>omega
     case rel =>
      have hyj:l[jj]'Hlt.out=y:=B.out
      have hbw:Below base w w':=BW.out.trans ((((Grew.refl wr).alloc _).trans hb').below.mono (Nat.le_trans hbase BW.out.size))
      refine⟨ii+1,jj+1,by omega,by omega,by omega,by go_num,by go_num,(show Aside _ from ?_),(show Aside _ from⟨ds1,?_,?_⟩)⟩
      ·exact hbw.setCell (p:=⟨g,ii*12,none⟩) hbg _ |>.setCell (p:=⟨g,ii*12+1,none⟩) hbg _ |>.setCell (p:=⟨g,ii*12+2,none⟩) hbg _ |>.setCell (p:=⟨g,ii*12+3,none⟩) hbg _ |>.setCell (p:=⟨g,ii*12+4,none⟩) hbg _ |>.setCell (p:=⟨g,ii*12+5,none⟩) hbg _ |>.setCell (p:=⟨g,ii*12+6,none⟩) hbg _ |>.setCell (p:=⟨g,ii*12+7,none⟩) hbg _ |>.setCell (p:=⟨g,ii*12+8,none⟩) hbg _ |>.setCell (p:=⟨g,ii*12+9,none⟩) hbg _ |>.setCell (p:=⟨g,ii*12+10,none⟩) hbg _ |>.setCell (p:=⟨g,ii*12+11,none⟩) hbg _
      ·simpa [Opn.cells,World.setCells,Nat.add_assoc] using hD1
      ·exact DelInv.keep (f:=Opn.cells) DI.out (fun _=>rfl) Hlt.out (by rw[hyj,Hq.out];rfl) hL1 (by rw[hyj];exact hA1) (by rw[hyj];exact hB1)
   ·have hje:jj=l.length:=by omega
    subst hje
    have hii:¬ cap=ii:=by omega
    have hgt:(ii:Int)≤(l.length:Int):=by omega
    obtain⟨w2,ds2,hrun,ho2,hg2,ha2⟩:=run_clear_own (P:=Tryz.prog) wr 22 26 0 (.agg #[.int .i64 0,.int .i64 0,.int .i64 0,.int .i64 0,.int .i64 0,.int .i64 0,.int .i64 0,.string ⟨#[]⟩,.string ⟨#[]⟩,.int .i64 0,.int .i64 0,.int .i64 0]) 12 Tryz.underlying22 Tryz.zeroValue26 rfl (by omega) (by simp[Value.cells,Value.oneCell']) ho ii (cap-ii) hij
    have hrun':∀ ty,(Builtin.clear_ #[22] ty #[.slice (some ⟨g,ii*12,none⟩) (l.length-ii) (cap-ii)]).run Tryz.prog wr=.ok (.tuple #[]) w2:=fun _=>hrun
    have Ho2:=Lib.hid ho2
    have Ha2:=Lib.hid ha2
    clear ho2 ha2 hrun ho
    go_wp2
    go_ret
    obtain⟨e1,e2⟩:=DelInv.done (f:=Opn.cells) DI.out (fun _=>rfl) Ha2.out
    have hc2:=own_cut Ho2.out ii (by omega)
    rw[e1] at hc2
    refine⟨_,rfl,?_,Below.grown BW.out hg2 (Nat.le_trans hbase BW.out.size) (fun k hk=>by cases hk;exact hbg)⟩
    rw[← e2]
    exact hc2
end Go.Proofs.YtdochkemaiokfaaGreat
/- The reference's Few at a log, walked. No condition. -/
namespace Go.Proofs.YtdochkemaiokfaaGreat
open Go.RowKit
def FewU (l:List Opn):Prop:=(∀ o∈l,FewO o)∧l.length≤24
set_option maxHeartbeats 4000000 in
set_option maxRecDepth 100000 in
theorem few22 (l:List Opn) (lv:Value) (w:World) (hv:SlO w lv l):Calls Tryz.prog 12 #[lv] w (YesIf (FewU l) w):=by
 obtain⟨A,c,rfl,hlc,hcap,hr⟩:=hv.open_
 unfold maxLen at hcap
 have HR:=Lib.hid hr
 have HS:=Lib.hid (fun k (h:k<l.length)=>(List.take_succ_eq_append_getElem h:l.take (k+1)=l.take k++[l[k]]))
 have HFW:=Lib.hid (fun k (h:k<l.length) W=>few21_any l[k] W)
 clear hv hr
 go_enter Tryz.func12,Tryz.ntmps12
 go_wp2
 go_loopg [3] l.length (fun gg s3 wr=>∃ kk:Nat,kk≤l.length∧l.length-kk≤gg∧s3=.int .i64 kk∧Aside (∀ o∈l.take kk,FewO o)∧Aside (Grew w wr))
 case atStart=>exact⟨0,by omega,by omega,rfl,(show Aside _ from fun o h=>by simp at h),(show Aside _ from Grew.refl w)⟩
 case round =>
  obtain⟨kk,hkk,hgk,rfl,FA,GW⟩:=hrel
  by_cases hlt:kk<l.length
  case neg =>
   have hltz:¬ (kk:Int)<(l.length:Int):=by omega
   obtain rfl:kk=l.length:=by omega
   rw[List.take_length] at FA
   by_cases h24:l.length≤24
   ·have hz:(l.length:Int)≤24:=by omega
    have HY:=Lib.hid (show FewU l from⟨FA.out,h24⟩)
    go_wp2
    go_ret
    exact YesIf.yes HY.out GW.out
   ·have hz:¬ (l.length:Int)≤24:=by omega
    go_wp2
    go_ret
    exact YesIf.no GW.out
  case pos =>
   have hltz:(kk:Int)<(l.length:Int):=by omega
   obtain⟨b,off,rfl,hbb,hcell⟩:=HR.out (by omega)
   obtain⟨c0,c1,c2,c3,c4,c5,c6,c7,c8,c9,c10,c11⟩:=hcell wr GW.out kk hlt
   have K:=Lib.hid (HFW.out kk hlt)
   have T:=Lib.hid (HS.out kk hlt)
   generalize l[kk]=y at c0 c1 c2 c3 c4 c5 c6 c7 c8 c9 c10 c11 K T
   obtain⟨y0,y1,y2,y3,y4,y5,y6,y7,y8,y9,y10,y11⟩:=y
   dsimp only [Opn.agg] at c0 c1 c2 c3 c4 c5 c6 c7 c8 c9 c10 c11 K T
   clear hcell
   go_wp2_with fail
   refine(K.out _).mono ?_
   rintro e w2 ⟨q,rfl,hq,g⟩
   have HG2:=Lib.hid (GW.out.trans g)
   have HQ:=Lib.hid hq
   clear g hq c0 c1 c2 c3 c4 c5 c6 c7 c8 c9 c10 c11
   dsimp only
   cases q
   ·go_wp2
    go_ret
    exact YesIf.no HG2.out
   ·have HAL:=Lib.hid (show ∀ o∈l.take (kk+1),FewO o from fun o ho=>by
     rw[T.out] at ho
     rcases List.mem_append.1 ho with h|h
     ·exact FA.out o h
     ·rw[List.mem_singleton.1 h]
      exact HQ.out rfl)
    clear HQ
    go_wp2
    go_roundg (l.length-(kk+1))
    case measure=>omega
    case rel=>exact⟨kk+1,by omega,by omega,by go_num,(show Aside _ from HAL.out),(show Aside _ from HG2.out)⟩
end Go.Proofs.YtdochkemaiokfaaGreat
/- undo: the keeper's counts, walked. The conditions: the operations' numbers are numbers of an int; the log is not too long. -/
namespace Go.Proofs.YtdochkemaiokfaaGreat
open Go.RowKit Go.Shelf
attribute [local go_sem] Oper.semAt_some
structure CntI (w:World) (IB RB:Nat) (id:Int) (q:Bool) (W:World):Prop where
 g:Grew w W
 i:Boxed W IB 3 (.int .i64 id)
 r:Boxed W RB 4 (.bool q)
structure CntAt (w:World) (IB RB LB N:Nat):Prop where
 i:w.heap.size≤IB
 r:IB<RB
 l:RB<LB
 n:LB<N
section
variable {w W W':World} {IB RB LB N:Nat} {id:Int} {q:Bool} {row:Option Nat}
theorem CntI.turn (h:CntI w IB RB id q W) (hL:CntAt w IB RB LB N) (hg:W.grownBy W' row) (hr:∀ r,row=some r→N≤r):CntI w IB RB id q W':=by
 obtain⟨h1,h2,h3,h4⟩:=hL
 exact⟨Below.grown h.g hg h.g.size (fun k e=>by have:=hr k e;omega),heapTurn hg h.i (fun r e=>by have:=hr r e;omega),heapTurn hg h.r (fun r e=>by have:=hr r e;omega)⟩
theorem CntI.put (h:CntI w IB RB id q W) (hL:CntAt w IB RB LB N) (p:Bool):CntI w IB RB id p (W.setCell ⟨RB,0,none⟩ (.bool p)):=by
 obtain⟨h1,h2,h3,h4⟩:=hL
 refine⟨h.g.setCell (p:=⟨RB,0,none⟩) (by show w.heap.size≤RB;omega) _,?_,h.r.set _⟩
 show(_:World).heap[IB]? = _
 rw[Below.heap_setCell _ _ _ _ (by show IB≠RB;omega)]
 exact h.i
end
def CntA (IB RB LB KB:Nat) (id:Int) (lv:Value) (x:Int × Opn) (a:Act) (W:World):Prop:=∃ OB,a={ tmps:=#[.pointer (some ⟨KB,0,none⟩),.int .i64 id,undef,.pointer (some ⟨IB,0,none⟩),.pointer (some ⟨RB,0,none⟩),undef,.pointer (some ⟨OB,0,none⟩),.pointer (some ⟨KB,0,none⟩),.pointer (some ⟨KB,0,none⟩),.pointer (some ⟨KB,0,none⟩),lv,.func (.func 69) #[] #[.pointer (some ⟨LB,0,none⟩)],.int .i64 x.1,x.2.agg,undef,undef,undef,undef],defers:=[] } ∧
 W.heap[OB]? = some (.cells x.2.cells.toArray 26 (0,0))
set_option maxHeartbeats 8000000 in
set_option maxRecDepth 100000 in
theorem uCounts (l:List Opn) (hwf:∀ i (h:i<l.length),WfO l[i]) (id:Int) (lv:Value) (KB:Nat) (w:World) (hv:SlO w lv l) (hk:w.cell? ⟨KB,0,none⟩=some lv) (hlen:l.length≤1000000):Calls Tryz.prog 91 #[.pointer (some ⟨KB,0,none⟩),.int .i64 id] w fun e w'=>e=.returned (.bool ((countI l).any fun p=>p.2.id == id))∧Grew w w':=by
 have KC:=Lib.hid (fun A n c W=>uCounting A n c W)
 have KS:=Lib.hid (fun X B LB n W a b c d=>countStops l hwf lv w hv hlen X B LB n a b W c d)
 obtain⟨A,c,rfl,-⟩:=hv.open_
 generalize countI l=CI at KS ⊢
 have hk1:=keep_cell (((Grew.refl w).alloc (.cells #[.int .i64 id] 3)).alloc (.cells #[.bool false] 4)) hk
 clear hv hwf hk
 refine(callsIn_wide (n:=9)).1 ?_
 refine callsIn_of_wp_marks Tryz.func91 rfl trivial ?_ rfl
 simp only [Tryz.ntmps91,List.size_toArray,List.length_cons,List.length_nil,Nat.reduceAdd,Nat.reduceSub,Array.replicate_succ,Array.replicate_zero,List.push_toArray,List.append_toArray,List.nil_append,List.cons_append]
 refine wpIn_wide.2 ?_
 go_wp2_with fail
 refine(KC.out _ _ _ _).mono ?_
 rintro e wl ⟨rfl,hwl⟩
 dsimp only
 go_wp2_with fail
 refine(wpIn_wide (n:=9)).1 ?_
 have hI0:CntI w w.heap.size (w.heap.size+1) id false wl:=by
  have e0:=heapNew w (.cells #[.int .i64 id] 3)
  generalize hA:w.alloc (.cells #[.int .i64 id] 3)=W1 at e0 hwl
  have s1:W1.heap.size=w.heap.size+1:=by rw[← hA,World.size_alloc]
  have g1:Grew w W1:=by rw[← hA];exact(Grew.refl w).alloc _
  have e1:=heapNew W1 (.cells #[.bool false] 4)
  generalize hB:W1.alloc (.cells #[.bool false] 4)=W2 at e1 hwl
  have g2:Grew W1 W2:=by rw[← hB];exact(Grew.refl W1).alloc _
  have g3:Grew W2 wl:=by rw[← hwl];exact(Grew.refl W2).alloc _
  rw[s1] at e1
  exact⟨(g1.trans g2).trans g3,heapKeep (g2.trans g3) e0,heapKeep g3 e1⟩
 have hsz:wl.heap.size=w.heap.size+1+1+1:=by rw[← hwl];simp only [World.size_alloc]
 have hLx:Boxed wl (w.heap.size+1+1) 22 (.slice A l.length c):=by
  have:=Boxed.new ((w.alloc (.cells #[.int .i64 id] 3)).alloc (.cells #[.bool false] 4)) 22 (.slice A l.length c)
  rw[hwl] at this
  simpa only [World.size_alloc] using this
 simp only [World.size_alloc]
 clear hwl
 have hAt:CntAt w w.heap.size (w.heap.size+1) (w.heap.size+1+1) wl.heap.size:=⟨by omega,by omega,by omega,by omega⟩
 clear hsz
 generalize w.heap.size+1+1=LB at hLx hAt ⊢
 generalize w.heap.size+1=RB at hI0 hAt ⊢
 have HAT:=Lib.hid hAt
 have hst:=KS.out (fun k=>k=RB) wl.heap.size LB 8 wl hAt.n (by have:=hAt.l;omega) hI0.g hLx
 have HI0:=Lib.hid hI0
 have HN:=Lib.hid (show w.heap.size≤wl.heap.size from hI0.g.size)
 generalize hIB:w.heap.size=IB at HAT HI0 ⊢
 have HIB:=Lib.hid hIB
 clear hI0 hLx hAt KS KC hk1 hIB
 refine wpIn_rangeS rfl (by omega) (gf:=69) (lb:=#[.pointer (some ⟨LB,0,none⟩)]) rfl trivial (enters_of Tryz.func69 (by kernel_rfl) rfl) HN.out hst (fun _=>rfl)
  (fun pre W=>(pre.any fun p=>p.2.id == id)=false∧CntI w IB RB id false W)
  (fun c pre W=>c=.ret∧(pre.any fun p=>p.2.id == id)=true∧CntI w IB RB id true W)
  (fun _ _ _ _ hs hg hr=>⟨hs.1,hs.2.turn HAT.out hg (fun r e=>(hr r e).1)⟩)
  (fun _ _ _ _ _ hs hg hr=>⟨hs.1,hs.2.1,hs.2.2.turn HAT.out hg (fun r e=>(hr r e).1)⟩)
  ⟨rfl,HI0.out⟩
  (CntA IB RB LB KB id (.slice A l.length c))
  (fun x a' _ W W' row h hg hr=>by
   obtain⟨OB,h1,h2⟩:=h
   exact⟨OB,h1,heapTurn hg h2 (fun r e k=>by have:=(hr r e).2 _ (by rw[k];exact h2);cases this)⟩)
  ?assign ?body ?done ?stop
 case assign =>
  rintro ll ⟨xi,⟨o0,o1,o2,o3,o4,o5,o6,o7,o8,o9,o10,o11⟩⟩ W K hs hK
  dsimp only [Opn.agg]
  gi_wp2
  exact hK _ _ ((Grew.refl W).alloc _) ⟨W.heap.size,rfl,heapNew _ _⟩
 case body =>
  rintro ll pre ⟨xi,o⟩ a' W ⟨hz,hB⟩ ⟨OB,rfl,hO⟩ hSp
  have HB:=Lib.hid hB
  have HZ:=Lib.hid hz
  have hi:=hB.i.cell
  have hr:=hB.r.cell
  have hf:=hB.r.frozen
  have HBR:=Lib.hid hB.r
  obtain⟨o0,o1,o2,o3,o4,o5,o6,o7,o8,o9,o10,o11⟩:=o
  have q0:W.cell? ⟨OB,0,none⟩=some (.int .i64 o0):=cellOf hO rfl
  dsimp only [Opn.agg]
  clear hz hB hO hst HI0 hSp
  cases hq:(o0 == id)
  ·gi_wp2
   refine⟨keepsG (Grew.refl _),KpS.refl _ _ _ _,?_,HB.out⟩
   rw[List.any_append,HZ.out,List.any_cons,List.any_nil]
   simpa using hq
  ·gi_wp2
   refine⟨KeepsOthers.setCell _ _ _,rfl,?_,HB.out.put HAT.out true⟩
   rw[List.any_append,List.any_cons]
   simp[hq]
 case done =>
  rintro D xs W hD rfl ⟨hz,hB⟩ hK
  have hr:=hB.r.cell
  have hf:=hB.r.frozen
  have FIN:=Lib.hid ((hB.put HAT.out false).turn HAT.out (grownBy_putObj' _ D (.deferred none)) (fun r e=>by cases e;exact hD))
  have HZ:=Lib.hid hz
  have HK:=Lib.hid hK
  clear hz hB hK hst HI0
  go_wp2
  refine⟨by simp,.inl ⟨_,_,rfl,run_takeDeferred ((KeepsOthers.setCell _ _ _).same _ _ HK.out rfl),?_⟩⟩
  have p0:=FIN.out.r.cell
  refine⟨.bool false,by simp[results,Tryz.results91,go_sem,p0],?_,FIN.out.g⟩
  rw[HZ.out]
 case stop =>
  rintro D c pre W hD ⟨suf,hSp⟩ ⟨rfl,hz,hB⟩ hK
  have FIN:=Lib.hid (hB.turn HAT.out (grownBy_putObj' _ D (.deferred none)) (fun r e=>by cases e;exact hD))
  have HZ:=Lib.hid hz
  have HK:=Lib.hid hK
  have HSP:=Lib.hid hSp
  clear hz hB hK hst HI0 hSp
  gi_wp2
  refine⟨by simp,.inl ⟨_,_,rfl,run_takeDeferred HK.out,?_⟩⟩
  have p0:=FIN.out.r.cell
  refine⟨.bool true,by simp[results,Tryz.results91,go_sem,p0],?_,FIN.out.g⟩
  rw[← HSP.out,List.any_append,HZ.out]
  rfl
end Go.Proofs.YtdochkemaiokfaaGreat
/- slices.SortFunc at no evidence and at no ledger: nothing is done. No condition. -/
namespace Go.Proofs.YtdochkemaiokfaaGreat
open Go.RowKit
theorem bitsLen64 (w:World):Calls Tryz.prog 116 #[.int .u64 0] w fun e w'=>(∃ n,e=.returned (.int .i64 n))∧w=w':=by
 go_enter Tryz.func116,Tryz.ntmps116
 go_wp2
 go_ret
 exact⟨⟨_,rfl⟩,rfl⟩
theorem bitsLen (w:World):Calls Tryz.prog 75 #[.int .u64 0] w fun e w'=>(∃ n,e=.returned (.int .i64 n))∧w=w':=by
 have K:=Lib.hid (bitsLen64 w)
 go_enter Tryz.func75,Tryz.ntmps75
 go_wp2_with fail
 refine K.out.mono ?_
 rintro e w1 ⟨⟨n,rfl⟩,rfl⟩
 dsimp only
 go_wp2
 go_ret
 exact⟨⟨_,rfl⟩,rfl⟩
theorem insSort0C (A:Option Addr) (c:Nat) (fv:Value) (w:World):Calls Tryz.prog 157 #[.slice A 0 c,.int .i64 0,.int .i64 0,fv] w fun e w'=>e=.returned (.tuple #[])∧w=w':=by
 go_enter Tryz.func157,Tryz.ntmps157
 go_wp2
 go_loopg [8] 0 (fun gg s8 wr=>s8=.int .i64 1∧wr=w)
 case atStart=>exact⟨rfl,rfl⟩
 case round =>
  obtain⟨rfl,rfl⟩:=hrel
  go_wp2
  go_end0
  exact⟨rfl,rfl⟩
set_option maxRecDepth 100000 in
theorem pdq0C (A:Option Addr) (c:Nat) (n:Int) (fv:Value) (w:World):Calls Tryz.prog 105 #[.slice A 0 c,.int .i64 0,.int .i64 0,.int .i64 n,fv] w fun e w'=>e=.returned (.tuple #[])∧w=w':=by
 have K:=Lib.hid (insSort0C A c fv w)
 go_enter Tryz.func105,Tryz.ntmps105
 go_wp2_with fail
 go_loopg [1,2] 0 (fun gg s1 s2 wr=>s1=.int .i64 0∧s2=.int .i64 0∧wr=w)
 case atStart=>exact⟨rfl,rfl,rfl⟩
 case round =>
  obtain⟨rfl,rfl,rfl⟩:=hrel
  go_wp2_with fail
  refine K.out.mono ?_
  rintro e w1 ⟨rfl,rfl⟩
  dsimp only
  go_wp2
  refine bodyPost_ret (results_none rfl _ _ _) rfl ?_
  exact⟨rfl,rfl⟩
theorem sort0C (A:Option Addr) (c:Nat) (fv:Value) (w:World):Calls Tryz.prog 71 #[.slice A 0 c,fv] w fun e w'=>e=.returned (.tuple #[])∧w=w':=by
 have KL:=Lib.hid (bitsLen w)
 have K:=Lib.hid (fun n=>pdq0C A c n fv w)
 go_enter Tryz.func71,Tryz.ntmps71
 go_wp2_with fail
 refine KL.out.mono ?_
 rintro e w1 ⟨⟨n,rfl⟩,rfl⟩
 dsimp only
 go_wp2_with fail
 refine(K.out _).mono ?_
 rintro e w1 ⟨rfl,rfl⟩
 dsimp only
 go_wp2
 go_end0
 exact⟨rfl,rfl⟩
theorem insSort0M (A:Option Addr) (c:Nat) (fv:Value) (w:World):Calls Tryz.prog 107 #[.slice A 0 c,.int .i64 0,.int .i64 0,fv] w fun e w'=>e=.returned (.tuple #[])∧w=w':=by
 go_enter Tryz.func107,Tryz.ntmps107
 go_wp2
 go_loopg [8] 0 (fun gg s8 wr=>s8=.int .i64 1∧wr=w)
 case atStart=>exact⟨rfl,rfl⟩
 case round =>
  obtain⟨rfl,rfl⟩:=hrel
  go_wp2
  go_end0
  exact⟨rfl,rfl⟩
set_option maxRecDepth 100000 in
theorem pdq0M (A:Option Addr) (c:Nat) (n:Int) (fv:Value) (w:World):Calls Tryz.prog 74 #[.slice A 0 c,.int .i64 0,.int .i64 0,.int .i64 n,fv] w fun e w'=>e=.returned (.tuple #[])∧w=w':=by
 have K:=Lib.hid (insSort0M A c fv w)
 go_enter Tryz.func74,Tryz.ntmps74
 go_wp2_with fail
 go_loopg [1,2] 0 (fun gg s1 s2 wr=>s1=.int .i64 0∧s2=.int .i64 0∧wr=w)
 case atStart=>exact⟨rfl,rfl,rfl⟩
 case round =>
  obtain⟨rfl,rfl,rfl⟩:=hrel
  go_wp2_with fail
  refine K.out.mono ?_
  rintro e w1 ⟨rfl,rfl⟩
  dsimp only
  go_wp2
  refine bodyPost_ret (results_none rfl _ _ _) rfl ?_
  exact⟨rfl,rfl⟩
theorem sort0M (A:Option Addr) (c:Nat) (fv:Value) (w:World):Calls Tryz.prog 54 #[.slice A 0 c,fv] w fun e w'=>e=.returned (.tuple #[])∧w=w':=by
 have KL:=Lib.hid (bitsLen w)
 have K:=Lib.hid (fun n=>pdq0M A c n fv w)
 go_enter Tryz.func54,Tryz.ntmps54
 go_wp2_with fail
 refine KL.out.mono ?_
 rintro e w1 ⟨⟨n,rfl⟩,rfl⟩
 dsimp only
 go_wp2_with fail
 refine(K.out _).mono ?_
 rintro e w1 ⟨rfl,rfl⟩
 dsimp only
 go_wp2
 go_end0
 exact⟨rfl,rfl⟩
end Go.Proofs.YtdochkemaiokfaaGreat