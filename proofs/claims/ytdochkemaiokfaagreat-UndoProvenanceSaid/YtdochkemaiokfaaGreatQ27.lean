/- Lemmas on what the functions of the program and of the library compute: Lap, Lcm, PlainUc, PlainUd, UnB, IdxU, PlainUe, PlainUf, PlainUg. The conditions stand at each. -/
import Derived.Test.YtdochkemaiokfaaGreatQ25
import Derived.Test.YtdochkemaiokfaaGreatQ26
import Derived.Test.YtdochkemaiokfaaGreatQ21
import Derived.Test.YtdochkemaiokfaaGreatQ13
import Derived.Test.YtdochkemaiokfaaGreatQ3
import Derived.Test.YtdochkemaiokfaaGreatQ23
import Derived.Test.YtdochkemaiokfaaGreatQ9
import Derived.Test.YtdochkemaiokfaaGreatQ2
import Derived.Lib.SlicesCompact
import Derived.Test.YtdochkemaiokfaaGreatQ5
import Derived.Sort.OwnSortedInts
import Derived.Test.YtdochkemaiokfaaGreatQ8
import Derived.Shelf.Small.Bits
import Derived.Shelf.Small.Strs
import Derived.Shelf.Small.Wraps
import Derived.Shelf.Strings.Search3
import Derived.Shelf.LaysM
import Derived.Shelf.Strings.Shaped
import Derived.Shelf.Sort.Plain
import Derived.Shelf.Slices.Reverse
import Derived.Shelf.Slices.In.SortNone
import Derived.Test.YtdochkemaiokfaaGreatProg
import Derived.Test.YtdochkemaiokfaaGreatQ4
import Derived.Sort.Grow
import Derived.Lib.ItoaLen
import Derived.Laws.Concat
import Derived.Test.YtdochkemaiokfaaGreatQ14
import Derived.Maps.AppendAt
import Derived.Deep.CutRange
import Derived.Deep.RegionHeld3
import Derived.BigQuiet
import Derived.Test.YtdochkemaiokfaaGreatQ11
import Derived.WalkMore
import Derived.Test.YtdochkemaiokfaaGreatQ12
import Derived.Test.YtdochkemaiokfaaGreatQ22
import Derived.Test.YtdochkemaiokfaaGreatQ1
import Derived.Test.YtdochkemaiokfaaGreatQ10
/- A tree that a call returns, laid into a box that the statement made: what the laws know behind it. No condition. -/
namespace Go.Proofs.YtdochkemaiokfaaGreat
open Go.RowKit
theorem rd_setT {W:World} {X k:Nat} {t:TypeId} {v x y:Value} {cs:List Value} (hX:W.heap[X]? = some (.cells #[.slice none 0 0,.slice none 0 0] t (0,0))) (h:Rd W k v cs) (hk:0<k) (hi:∀ c,cs[0]? = some c→c≠.slice none 0 0):Rd ((W.setCell ⟨X,0,none⟩ x).setCell ⟨X,1,none⟩ y) k v cs:=by
 obtain⟨A,n,c,rfl,hl,hn,hc,h0⟩:=h
 refine⟨A,n,c,rfl,hl,hn,hc,fun hpos=>?_⟩
 obtain⟨b,off,rfl,hb,hcell⟩:=h0 hpos
 have hne:b≠X:=by
  intro e
  subst e
  have hlen:0<cs.length:=by
   rw[hl]
   exact Nat.mul_pos hpos hk
  have h1:=hcell 0 cs[0] (by rw[List.getElem?_eq_getElem hlen])
  have h2:=hi cs[0] (by rw[List.getElem?_eq_getElem hlen])
  simp[World.cell?,hX] at h1
  match off,h1 with
  | 0,h1=>simp at h1;exact h2 h1.symm
  | 1,h1=>simp at h1;exact h2 h1.symm
  | n+2,h1=>simp at h1
 refine⟨b,off,rfl,by simpa using hb,fun j u hu=>?_⟩
 rw[World.cell?_setCell_other _ _ _ _ (adr_ne hne.symm),World.cell?_setCell_other _ _ _ _ (adr_ne hne.symm)]
 exact hcell j u hu
theorem TrOk.setT {W:World} {X:Nat} {ty:TypeId} {rv bv x y:Value} {t:Tr} (hX:W.heap[X]? = some (.cells #[.slice none 0 0,.slice none 0 0] ty (0,0))) (h:TrOk W rv bv t):TrOk ((W.setCell ⟨X,0,none⟩ x).setCell ⟨X,1,none⟩ y) rv bv t:=by
 have hI:∀(l:List Int) c,(l.flatMap oneI)[0]? = some c→c≠.slice none 0 0:=fun l c hc=>by
  cases l with
  | nil=>cases hc
  | cons a r =>
   have:some (Value.int .i64 a)=some c:=hc
   injection this with this
   rw[← this]
   intro e
   cases e
 obtain⟨h1,cs,h2,h3,h4⟩:=h
 refine⟨rd_setT hX h1 (by omega) (hI _),cs,rd_setT hX h2 (by omega) (fun c hc=>?_),h3,fun i hi hi'=>⟨(h4 i hi hi').1,rd_setT hX (h4 i hi hi').2 (by omega) (hI _)⟩⟩
 cases cs with
 | nil=>cases hc
 | cons a r =>
  have:some (Value.int .i64 a.id)=some c:=hc
  injection this with this
  rw[← this]
  intro e
  cases e
def ApCut (WA:World) (R:Tr × Int) (s2 s3:Value) (wx:World):Prop:=∃ X rv bv,s2=.pointer (some ⟨X,0,none⟩)∧s3=.int .i64 R.2∧wx.cell? ⟨X,0,none⟩=some rv∧wx.cell? ⟨X,1,none⟩=some bv∧TrOk wx rv bv R.1∧Grew WA wx
theorem ap_meet {WA W:World} {R:Tr × Int} {X:Nat} {rv bv:Value} (hX:W.heap[X]? = some (.cells #[.slice none 0 0,.slice none 0 0] 43 (0,0))) (hlo:WA.heap.size≤X) (hG:Grew WA W) (h:TrOk W rv bv R.1):ApCut WA R (.pointer (some ⟨X,0,none⟩)) (.int .i64 R.2) ((W.setCell ⟨X,0,none⟩ rv).setCell ⟨X,1,none⟩ bv):=by
 have c0:W.cell? ⟨X,0,none⟩=some (.slice none 0 0):=by simp[World.cell?,hX]
 have c1:W.cell? ⟨X,1,none⟩=some (.slice none 0 0):=by simp[World.cell?,hX]
 obtain⟨q0,q1⟩:=res_cells (v0:=rv) (v1:=bv) c0 c1
 exact⟨X,rv,bv,rfl,rfl,q0,q1,h.setT hX,(hG.setCell hlo _).setCell hlo _⟩
theorem ap_meet2 {WA W:World} {R:Tr × Int} {rv bv:Value} (hG:Grew WA W) (h:TrOk W rv bv R.1):ApCut WA R (.pointer (some ⟨W.heap.size,0,none⟩)) (.int .i64 R.2) (W.alloc (.cells #[rv,bv] 43)) :=
 ⟨_,rv,bv,rfl,rfl,new_cell (Grew.refl _) 0 _ rfl,new_cell (Grew.refl _) 1 _ rfl,h.mono ((Grew.refl _).alloc _),hG.alloc _⟩
end Go.Proofs.YtdochkemaiokfaaGreat
/- What the laws of layer 21 share: the cells of their boxes, and the sizes of right trees. No condition. -/
namespace Go.Proofs.YtdochkemaiokfaaGreat
open Go.RowKit
theorem kids_few {l:List Br} {ks:List Int} {p:Int} (h:KidsAre l ks p):ks.length≤l.length:=by
 have h1:=List.Nodup.length_le_of_subset (l₂:=l.map Br.id) h.1 (fun x hx=>by
  obtain⟨b,hb,_,e⟩:=(h.2 x).1 hx
  exact List.mem_map.2 ⟨b,hb,e⟩)
 simpa using h1
theorem right_few {t:Tr} (h:RightT t):FewBr t.brs∧t.roots.length≤1000000:=by
 have hs:=((right_iff t).1 h).1
 have hl:=hs.len
 refine⟨⟨by omega,fun i hi=>?_⟩,?_⟩
 ·have:=kids_few (hs.kids _ (List.getElem_mem hi))
  omega
 ·have:=kids_few hs.roots
  omega
end Go.Proofs.YtdochkemaiokfaaGreat
/- Admitted logs, plainly: the keeper's tree is the one that the operations that count lead to. No condition. -/
namespace Go.Proofs.YtdochkemaiokfaaGreat
open Go.RowKit
theorem replay_append:∀(a b:List (Int × Opn)) (t:Tr),(replayI a t).2.2=0→replayI (a++b) t=replayI b (replayI a t).1
 | [],_,_,_=>rfl
 | (i,o)::a,b,t,h=>by
  rw[List.cons_append,replayI]
  rw[replayI] at h ⊢
  by_cases h0:(applyR t o).2=0
  ·rw[if_pos h0] at h ⊢
   rw[if_pos h0]
   exact replay_append a b _ h
  ·rw[if_neg h0] at h
   exact absurd h h0
inductive AdmL:List Opn→Prop
 | nil:AdmL []
 | snoc {l:List Opn} {o:Opn} (h:AdmL l) (ha:(admitT l (replayF l).1 o).2.2=0):AdmL (l++[o])
theorem late_no {l:List Opn} {o p:Opn} (h:lateB l o=false) (hl:l.getLast? = some p):p.id<o.id∧p.day≤o.day:=by
 unfold lateB at h
 rw[hl] at h
 simp only [Bool.or_eq_false_iff,decide_eq_false_iff_not] at h
 omega
theorem fault_zero {l:List Opn} {o:Opn} (h:faultK l o=0):l.length<512∧formedO o=true∧lateB l o=false∧(o.kind=6→∃ p,findO l o.unit=some p∧¬ (p.kind=1∧p.acc≠0∧countsB l p=true)):=by
 unfold faultK at h
 split at h
 ·cases h
 ·rename_i h1
  split at h
  ·cases h
  ·rename_i h2
   split at h
   ·cases h
   ·rename_i h3
    refine⟨by omega,by simpa using h2,by simpa using h3,fun h6=>?_⟩
    split at h
    ·rename_i h4
     exact absurd h h4.2
    ·split at h
     ·cases h
     ·split at h
      ·cases h
      ·split at h
       ·cases h
       ·rename_i p hp
        refine⟨p,hp,fun hc=>?_⟩
        rw[if_pos hc] at h
        cases h
theorem admit_fault {l:List Opn} {t:Tr} {o:Opn} (h:(admitT l t o).2.2=0):faultK l o=0:=by
 unfold admitT at h
 by_cases hf:faultK l o=0
 ·exact hf
 ·rw[if_pos hf] at h
  exact absurd h hf
theorem last_snoc {l:List Opn} {o:Opn}:(l++[o]).getLast? = some o:=by simp
structure LogOk (l:List Opn):Prop where
 ids:l.Pairwise fun a b=>a.id<b.id
 days:l.Pairwise fun a b=>a.day≤b.day
 formed:∀ o∈l,formedO o=true
 undo:∀ o∈l,o.kind=6→∃ p∈l,p.id=o.unit∧p.kind≠6
 short:l.length≤512
theorem find_op {l:List Opn} {id:Int} {p:Opn} (h:findO l id=some p):p∈l∧p.id=id∧p.kind≠6:=by
 unfold findO at h
 have h1:=List.mem_of_find?_eq_some h
 have h2:=List.find?_some h
 simp only [Bool.and_eq_true,beq_iff_eq,bne_iff_ne] at h2
 exact⟨h1,h2.1,h2.2⟩
theorem pair_snoc {R:Opn→Opn→Prop} (tr:∀ a b c,R a b→R b c→R a c) {l:List Opn} {o:Opn} (h:l.Pairwise R) (hl:∀ p,l.getLast? = some p→R p o):(l++[o]).Pairwise R:=by
 refine List.pairwise_append.2 ⟨h,by simp,fun a ha b hb=>?_⟩
 rw[List.mem_singleton.1 hb]
 cases hg:l.getLast? with
 | none=>rw[List.getLast?_eq_none_iff.1 hg] at ha;cases ha
 | some p =>
  obtain⟨m,hm⟩:=List.getLast?_eq_some_iff.1 hg
  rw[hm] at ha h
  rcases List.mem_append.1 ha with ha|ha
  ·exact tr _ _ _ ((List.pairwise_append.1 h).2.2 a ha p (by simp)) (hl p hg)
  ·rw[List.mem_singleton.1 ha];exact hl p hg
theorem adm_ok {l:List Opn} (h:AdmL l):LogOk l:=by
 induction h with
 | nil=>exact⟨List.Pairwise.nil,List.Pairwise.nil,by simp,by simp,by simp⟩
 | @snoc l o h ha ih =>
  obtain⟨h1,h2,h3,h4⟩:=fault_zero (admit_fault ha)
  refine⟨pair_snoc (fun a b c h k=>by omega) ih.ids (fun p hp=>(late_no h3 hp).1),pair_snoc (fun a b c h k=>by omega) ih.days (fun p hp=>(late_no h3 hp).2),fun x hx=>?_,fun x hx hk=>?_,by rw[List.length_append,List.length_singleton];omega⟩
  ·rcases List.mem_append.1 hx with hx|hx
   ·exact ih.formed x hx
   ·rw[List.mem_singleton.1 hx];exact h2
  ·rcases List.mem_append.1 hx with hx|hx
   ·obtain⟨p,hp,h⟩:=ih.undo x hx hk
    exact⟨p,List.mem_append.2 (.inl hp),h⟩
   ·rw[List.mem_singleton.1 hx] at hk ⊢
    obtain⟨p,hp,-⟩:=h4 hk
    obtain⟨k1,k2,k3⟩:=find_op hp
    exact⟨p,List.mem_append.2 (.inl k1),k2,k3⟩
end Go.Proofs.YtdochkemaiokfaaGreat
/- The keeper, plainly: its tree is the one that the operations that count lead to; undoing twice. No condition. -/
namespace Go.Proofs.YtdochkemaiokfaaGreat
open Go.RowKit
theorem undo_before {l:List Opn} {o:Opn} (h:LogOk l) (hl:∀ p,l.getLast? = some p→p.id<o.id):∀ x∈l,x.kind=6→x.unit≠o.id:=by
 intro x hx hk he
 obtain⟨p,hp,h1,-⟩:=h.undo x hx hk
 have:p.id<o.id:=by
  cases hg:l.getLast? with
  | none=>rw[List.getLast?_eq_none_iff.1 hg] at hp;cases hp
  | some q =>
   have hq:=hl q hg
   obtain⟨m,hm⟩:=List.getLast?_eq_some_iff.1 hg
   have hi:=h.ids
   rw[hm] at hp hi
   rcases List.mem_append.1 hp with hp|hp
   ·have:=(List.pairwise_append.1 hi).2.2 p hp q (by simp)
    omega
   ·rw[List.mem_singleton.1 hp];exact hq
 omega
theorem countI_adm {l:List Opn} {o:Opn} (h:LogOk l) (hl:lateB l o=false) (hk:o.kind≠6):countI (l++[o])=countI l++[((l.length:Int),o)] :=
 countI_plain hk (undo_before h fun _ hp=>(late_no hl hp).1)
theorem replay_two:∀(a:List (Int × Opn)) (t:Tr),(replayI a t).2.2=0→(replayI a t).2=(-1,0)
 | [],_,_=>rfl
 | (i,o)::a,t,h=>by
  rw[replayI] at h ⊢
  by_cases h0:(applyR t o).2=0
  ·rw[if_pos h0] at h ⊢
   exact replay_two a _ h
  ·rw[if_neg h0] at h
   exact absurd h h0
theorem adm_tree {l:List Opn} (h:AdmL l):(replayF l).2=(-1,0):=by
 induction h with
 | nil=>rfl
 | @snoc l o h ha ih =>
  have hf:=admit_fault ha
  obtain⟨h1,h2,h3,h4⟩:=fault_zero hf
  unfold admitT at ha
  rw[if_neg (by rw[hf];decide)] at ha
  by_cases hk:o.kind=6
  ·rw[if_pos hk] at ha
   by_cases hr:(replayF (l++[o])).2.2=0
   ·exact replay_two _ _ hr
   ·rw[if_pos hr] at ha
    exact absurd (show(20:Int)=0 from ha) (by decide)
  ·rw[if_neg hk] at ha
   have ha2:(applyR (replayF l).1 o).2=0:=by
    by_cases hz:(applyR (replayF l).1 o).2=0
    ·exact hz
    ·rw[if_pos hz] at ha
     exact absurd ha hz
   refine replay_two _ _ ?_
   rw[countI_adm (adm_ok h) h3 hk,replay_append _ _ _ (by show(replayF l).2.2=0;rw[ih])]
   show(replayI [((l.length:Int),o)] (replayF l).1).2.2=0
   rw[replayI,if_pos ha2]
   rfl
theorem adm_next {l:List Opn} {o:Opn} (h:AdmL l) (ha:(admitT l (replayF l).1 o).2.2=0):(admitT l (replayF l).1 o).1=(replayF (l++[o])).1:=by
 have hf:=admit_fault ha
 obtain⟨h1,h2,h3,h4⟩:=fault_zero hf
 unfold admitT at ha ⊢
 rw[if_neg (by rw[hf];decide)] at ha ⊢
 by_cases hk:o.kind=6
 ·rw[if_pos hk] at ha ⊢
  by_cases hr:(replayF (l++[o])).2.2=0
  ·rw[if_neg (by rw[hr];decide)]
  ·rw[if_pos hr] at ha
   exact absurd (show(20:Int)=0 from ha) (by decide)
 ·rw[if_neg hk] at ha ⊢
  have ha2:(applyR (replayF l).1 o).2=0:=by
   by_cases hz:(applyR (replayF l).1 o).2=0
   ·exact hz
   ·rw[if_pos hz] at ha
    exact absurd ha hz
  rw[if_neg (by rw[ha2];decide)]
  unfold replayF
  rw[countI_adm (adm_ok h) h3 hk,replay_append _ _ _ (by show(replayF l).2.2=0;rw[adm_tree h])]
  show _=(replayI [((l.length:Int),o)] (replayF l).1).1
  rw[replayI,if_pos ha2]
  rfl
theorem adm_inv {l:List Opn} {o:Opn} (h:AdmL (l++[o])):AdmL l∧(admitT l (replayF l).1 o).2.2=0:=by
 generalize hx:l++[o]=x at h
 cases h with
 | nil=>simp at hx
 | @snoc m p h ha =>
  obtain⟨rfl,h2⟩:=List.append_inj' hx rfl
  obtain rfl:o=p:=by simpa using h2
  exact⟨h,ha⟩
theorem adm_pre:∀(n:Nat) (a b:List Opn),b.length=n→AdmL (a++b)→AdmL a
 | 0,a,b,hn,h=>by rw[List.eq_nil_of_length_eq_zero hn,List.append_nil] at h;exact h
 | n+1,a,b,hn,h=>by
  have hb:b≠[]:=by intro e;rw[e] at hn;cases hn
  rw[← List.dropLast_concat_getLast hb,← List.append_assoc] at h
  exact adm_pre n a b.dropLast (by rw[List.length_dropLast];omega) (adm_inv h).1
theorem keep_adm:∀(r pre:List Opn),AdmL pre→((keepI pre r (replayF pre).1).2.2=0→AdmL (pre++r)∧keepI pre r (replayF pre).1=((replayF (pre++r)).1,-1,0))∧(AdmL (pre++r)→(keepI pre r (replayF pre).1).2.2=0)
 | [],pre,h=>by
  rw[List.append_nil]
  exact⟨fun _=>⟨h,rfl⟩,fun _=>rfl⟩
 | o::r,pre,h=>by
  rw[keepI]
  by_cases ha:(admitT pre (replayF pre).1 o).2.2=0
  ·rw[if_pos ha,adm_next h ha]
   have:=keep_adm r (pre++[o]) (.snoc h ha)
   rwa [List.append_assoc,List.singleton_append] at this
  ·rw[if_neg ha]
   refine⟨fun k=>absurd k ha,fun k=>?_⟩
   have h2:=adm_pre r.length (pre++[o]) r rfl (by rw[List.append_assoc];exact k)
   exact absurd (adm_inv h2).2 ha
end Go.Proofs.YtdochkemaiokfaaGreat
/- undo.replay, walked: the tree of the operations that count, or the index and the error of the first one that cannot be applied. The conditions: the library's own variables hold what they must; the operations' numbers are numbers of an int; the log is not too long. -/
namespace Go.Proofs.YtdochkemaiokfaaGreat
open Go.RowKit Go.Shelf
attribute [local go_sem] Oper.semAt_some
def RetRep (R:Tr × Int × Int) (w:World) (e:Ending) (w':World):Prop:=∃ rv bv,e=.returned (.tuple #[.agg #[rv,bv],.int .i64 R.2.1,.int .i64 R.2.2])∧TrOk w' rv bv R.1∧Grew w w'
def FewTr (t:Tr):Prop:=FewBr t.brs∧t.roots.length≤1000000
theorem fewTr_nil:FewTr ⟨[],[]⟩:=⟨⟨by simp,fun i h=>absurd h (by simp)⟩,by simp⟩
theorem fewTr_right {t:Tr} (h:RightT t):FewTr t:=right_few h
theorem trOk_nil (w:World):TrOk w (.slice none 0 0) (.slice none 0 0) ⟨[],[]⟩:=⟨SlI.nil w,[],SlB.nil w,rfl,fun i h=>absurd h (by simp)⟩
theorem replay_snoc {pre:List (Int × Opn)} {x:Int × Opn} {t:Tr} (h:(replayI pre t).2.2=0):replayI (pre++[x]) t=if (applyR (replayI pre t).1 x.2).2=0 then((applyR (replayI pre t).1 x.2).1,-1,0) else(⟨[],[]⟩,x.1,(applyR (replayI pre t).1 x.2).2):=by
 rw[replay_append _ _ _ h,replayI]
 split
 ·rfl
 ·rfl
theorem replay_stop:∀ {a b:List (Int × Opn)} {t:Tr},(replayI a t).2.2≠0→replayI (a++b) t=replayI a t
 | [],_,_,h=>absurd rfl h
 | (i,o)::a,b,t,h=>by
  rw[List.cons_append,replayI]
  rw[replayI] at h ⊢
  by_cases h0:(applyR t o).2=0
  ·rw[if_pos h0] at h ⊢
   rw[if_pos h0]
   exact replay_stop h
  ·rw[if_neg h0,if_neg h0]
structure RepAt (w:World) (TB AT EB LB N:Nat):Prop where
 t:w.heap.size<TB
 a:TB<AT
 e:AT<EB
 l:EB<LB
 n:LB<N
structure RepI (w:World) (TB AT EB:Nat) (t:Tr) (W:World):Prop where
 g:Grew w W
 res:W.heap[w.heap.size]? = some (.cells #[.slice none 0 0,.slice none 0 0] 43 (0,0))
 tr:∃ A n c B m d,W.heap[TB]? = some (.cells #[.slice A n c,.slice B m d] 43 (0,0))∧TrOk W (.slice A n c) (.slice B m d) t
 at_:Boxed W AT 3 (.int .i64 (-1))
 er:Boxed W EB 30 (.int .i64 0)
structure RepX (w:World) (AT EB:Nat) (i f:Int) (W:World):Prop where
 g:Grew w W
 res:W.heap[w.heap.size]? = some (.cells #[.slice none 0 0,.slice none 0 0] 43 (0,0))
 at_:Boxed W AT 3 (.int .i64 i)
 er:Boxed W EB 30 (.int .i64 f)
section
variable {w W W':World} {TB AT EB LB N:Nat} {t t':Tr} {row:Option Nat} {i f:Int}
theorem heapTurn {W W':World} {row:Option Nat} (hg:W.grownBy W' row) {X:Nat} {o:Obj} (h:W.heap[X]? = some o) (hr:∀ r,row=some r→r≠X):W'.heap[X]? = some o :=
 (hg.block X (Array.getElem?_eq_some_iff.1 h).1 (fun e=>hr X e.symm rfl)).trans h
theorem RepI.turn (h:RepI w TB AT EB t W) (hL:RepAt w TB AT EB LB N) (hg:W.grownBy W' row) (hr:∀ r,row=some r→N≤r∧∀ o,W.heap[r]? = some o→o.isCells=false):RepI w TB AT EB t W':=by
 obtain⟨h1,h2,h3,h4,h5⟩:=hL
 obtain⟨A,n,c,B,m,d,k1,k2⟩:=h.tr
 exact⟨Below.grown h.g hg h.g.size (fun k e=>by have:=(hr k e).1;omega),heapTurn hg h.res (fun r e=>by have:=(hr r e).1;omega),⟨A,n,c,B,m,d,heapTurn hg k1 (fun r e=>by have:=(hr r e).1;omega),k2.turn ⟨row,hg,fun X e=>noLit_other (hr X e).2⟩⟩,heapTurn hg h.at_ (fun r e=>by have:=(hr r e).1;omega),heapTurn hg h.er (fun r e=>by have:=(hr r e).1;omega)⟩
theorem RepI.grew (h:RepI w TB AT EB t W) (hL:RepAt w TB AT EB LB N) (hg:Grew W W'):RepI w TB AT EB t W':=h.turn hL (grown_grew hg none) (fun r e=>by cases e)
theorem RepX.turn (h:RepX w AT EB i f W) (hL:RepAt w TB AT EB LB N) (hg:W.grownBy W' row) (hr:∀ r,row=some r→N≤r):RepX w AT EB i f W':=by
 obtain⟨h1,h2,h3,h4,h5⟩:=hL
 exact⟨Below.grown h.g hg h.g.size (fun k e=>by have:=hr k e;omega),heapTurn hg h.res (fun r e=>by have:=hr r e;omega),heapTurn hg h.at_ (fun r e=>by have:=hr r e;omega),heapTurn hg h.er (fun r e=>by have:=hr r e;omega)⟩
theorem RepI.put (h:RepI w TB AT EB t W) (hL:RepAt w TB AT EB LB N) {A B:Option Addr} {n c m d:Nat} (ht:TrOk W (.slice A n c) (.slice B m d) t'):RepI w TB AT EB t' ((W.setCell ⟨TB,0,none⟩ (.slice A n c)).setCell ⟨TB,1,none⟩ (.slice B m d)):=by
 obtain⟨h1,h2,h3,h4,h5⟩:=hL
 obtain⟨A0,n0,c0,B0,m0,d0,k1,-⟩:=h.tr
 have hX:NoLit W TB:=noLit_slices k1 (by simp)
 have k2:=heap_setCell_same W TB 0 _ _ (.slice A n c) k1
 have hX2:NoLit (W.setCell ⟨TB,0,none⟩ (.slice A n c)) TB:=noLit_slices k2 (by simp)
 refine⟨(h.g.setCell (p:=⟨TB,0,none⟩) (by show w.heap.size≤TB;omega) _).setCell (p:=⟨TB,1,none⟩) (by show w.heap.size≤TB;omega) _,?_,⟨A,n,c,B,m,d,set2 k1 _ _,(ht.turn (Turns.set hX _ _)).turn (Turns.set hX2 _ _)⟩,?_,?_⟩
 ·rw[Below.heap_setCell _ _ _ _ (by show w.heap.size≠TB;omega),Below.heap_setCell _ _ _ _ (by show w.heap.size≠TB;omega)]
  exact h.res
 ·show(_:World).heap[AT]? = _
  rw[Below.heap_setCell _ _ _ _ (by show AT≠TB;omega),Below.heap_setCell _ _ _ _ (by show AT≠TB;omega)]
  exact h.at_
 ·show(_:World).heap[EB]? = _
  rw[Below.heap_setCell _ _ _ _ (by show EB≠TB;omega),Below.heap_setCell _ _ _ _ (by show EB≠TB;omega)]
  exact h.er
theorem RepI.stop (h:RepI w TB AT EB t W) (hL:RepAt w TB AT EB LB N) (i f:Int):RepX w AT EB i f ((W.setCell ⟨AT,0,none⟩ (.int .i64 i)).setCell ⟨EB,0,none⟩ (.int .i64 f)):=by
 obtain⟨h1,h2,h3,h4,h5⟩:=hL
 refine⟨(h.g.setCell (p:=⟨AT,0,none⟩) (by show w.heap.size≤AT;omega) _).setCell (p:=⟨EB,0,none⟩) (by show w.heap.size≤EB;omega) _,?_,?_,?_⟩
 ·rw[Below.heap_setCell _ _ _ _ (by show w.heap.size≠EB;omega),Below.heap_setCell _ _ _ _ (by show w.heap.size≠AT;omega)]
  exact h.res
 ·show(_:World).heap[AT]? = _
  rw[Below.heap_setCell _ _ _ _ (by show AT≠EB;omega)]
  exact h.at_.set _
 ·exact Boxed.set _ (by
   show(_:World).heap[EB]? = _
   rw[Below.heap_setCell _ _ _ _ (by show EB≠AT;omega)]
   exact h.er)
theorem RepI.kp2 (h:RepI w TB AT EB t W) (hL:RepAt w TB AT EB LB N) (x y:Value):KpS w.heap.size N (fun k=>k=TB∨k=AT∨k=EB) W ((W.setCell ⟨TB,0,none⟩ x).setCell ⟨TB,1,none⟩ y):=by
 obtain⟨h1,h2,h3,h4,h5⟩:=hL
 obtain⟨A0,n0,c0,B0,m0,d0,k1,-⟩:=h.tr
 exact(KpS.set _ (by omega) (.inl (.inl rfl)) ⟨_,_,_,k1⟩).trans (KpS.set _ (by omega) (.inl (.inl rfl)) ⟨_,_,_,heap_setCell_same W TB 0 _ _ x k1⟩)
end
theorem put_fin {w W:World} {D:Nat} {a b:Value} {t:Tr} (hres:W.heap[w.heap.size]? = some (.cells #[.slice none 0 0,.slice none 0 0] 43 (0,0))) (hg:Grew w W) (hD:w.heap.size≤D) (hK:W.heap[D]? = some (.deferred (some []))) (ha:(∀ q n,a≠.int q n)∧∀ s,a≠.string s) (ht:TrOk W a b t) :
  (((W.setCell ⟨w.heap.size,0,none⟩ a).setCell ⟨w.heap.size,1,none⟩ b).putObj D (.deferred none)).cell? ⟨w.heap.size,0,none⟩=some a∧(((W.setCell ⟨w.heap.size,0,none⟩ a).setCell ⟨w.heap.size,1,none⟩ b).putObj D (.deferred none)).cell? ⟨w.heap.size,1,none⟩=some b∧TrOk (((W.setCell ⟨w.heap.size,0,none⟩ a).setCell ⟨w.heap.size,1,none⟩ b).putObj D (.deferred none)) a b t∧Grew w (((W.setCell ⟨w.heap.size,0,none⟩ a).setCell ⟨w.heap.size,1,none⟩ b).putObj D (.deferred none)):=by
 have hne:w.heap.size≠D:=fun e=>by rw[← e,hres] at hK;cases hK
 have hX:NoLit W w.heap.size:=noLit_slices hres (by simp)
 have k2:=heap_setCell_same W w.heap.size 0 _ _ a hres
 have hX2:NoLit (W.setCell ⟨w.heap.size,0,none⟩ a) w.heap.size:=noLit_slices k2 (by simpa using ha)
 have hK2:((W.setCell ⟨w.heap.size,0,none⟩ a).setCell ⟨w.heap.size,1,none⟩ b).heap[D]? = some (.deferred (some [])):=by
  rw[Below.heap_setCell _ _ _ _ (fun e=>hne e.symm),Below.heap_setCell _ _ _ _ (fun e=>hne e.symm)]
  exact hK
 have h2:=set2 hres a b
 have gP:=grownBy_putObj' ((W.setCell ⟨w.heap.size,0,none⟩ a).setCell ⟨w.heap.size,1,none⟩ b) D (.deferred none)
 have h3:=heapTurn gP h2 (fun r e k=>by cases e;exact hne k.symm)
 refine⟨cellOf h3 rfl,cellOf h3 rfl,((ht.turn (Turns.set hX _ _)).turn (Turns.set hX2 _ _)).turn ⟨_,gP,fun X e=>by cases e;exact noLit_other fun o ho=>by rw[hK2] at ho;cases ho;rfl⟩,?_⟩
 exact Below.grown ((hg.setCell (p:=⟨w.heap.size,0,none⟩) (Nat.le_refl _) _).setCell (p:=⟨w.heap.size,1,none⟩) (Nat.le_refl _) _) gP (by simpa using hg.size) (fun k e=>by cases e;exact hD)
theorem keepsG {W W':World} (g:Grew W W'):KeepsOthers W W':=⟨g.size,fun k o ho _=>by rw[g.block k (Array.getElem?_eq_some_iff.1 ho).1];exact ho⟩
def RepA (w:World) (TB AT EB LB:Nat) (lv:Value) (x:Int × Opn) (a:Act) (W:World):Prop:=∃ OB,a={ tmps:=#[lv,undef,.pointer (some ⟨w.heap.size,0,none⟩),.int .i64 0,.int .i64 0,.pointer (some ⟨TB,0,none⟩),.pointer (some ⟨AT,0,none⟩),.pointer (some ⟨EB,0,none⟩),.int .i64 x.1,.pointer (some ⟨OB,0,none⟩),undef,undef,lv,.func (.func 69) #[] #[.pointer (some ⟨LB,0,none⟩)],.int .i64 x.1,x.2.agg,undef,undef,undef,undef,undef,undef,undef,undef,undef,undef,undef,undef,undef,undef,undef,undef,undef,undef],defers:=[] } ∧
 W.heap[OB]? = some (.cells x.2.cells.toArray 26 (0,0))
set_option maxHeartbeats 8000000 in
set_option maxRecDepth 100000 in
theorem uReplay (l:List Opn) (hwf:∀ i (h:i<l.length),WfO l[i]) (lv:Value) (w:World) (hE:Env w) (hv:SlO w lv l) (hlen:l.length≤1000000):Calls Tryz.prog 49 #[lv] w (RetRep (replayF l) w):=by
 have KA:=Lib.hid (fun(t:Tr) (o:Opn) rv bv W (hW:Grew w W) (ht:TrOk W rv bv t) (hf:FewTr t) (hk:(Lit.int .i64 o.kind).wf=true)=>rApply t o rv bv W (hE.mono hW) ht.1 ht.2 hf.1 hf.2 hk)
 have KC:=Lib.hid (fun A n c W=>uCounting A n c W)
 have KS:=Lib.hid (fun X B LB n W a b c d=>countStops l hwf lv w hv hlen X B LB n a b W c d)
 have HWF:=Lib.hid (fun p (h:p∈countI l)=>(show(Lit.int .i64 p.2.kind).wf=true from by
  obtain⟨i,hi,e⟩:=List.mem_iff_getElem.1 (show p.2∈l from by rw[countI_idx] at h;exact idx_mem (List.mem_filter.1 h).1)
  rw[← e]
  exact(hwf i hi).kind))
 obtain⟨A,c,rfl,-⟩:=hv.open_
 have hR:replayI (countI l) ⟨[],[]⟩=replayF l:=rfl
 generalize replayF l=RR at hR ⊢
 generalize countI l=CI at KS HWF hR
 have HR:=Lib.hid hR
 clear hE hv hwf hR
 refine(callsIn_wide (n:=9)).1 ?_
 refine callsIn_of_wp_marks Tryz.func49 rfl trivial ?_ rfl
 simp only [Tryz.ntmps49,List.size_toArray,List.length_cons,List.length_nil,Nat.reduceAdd,Nat.reduceSub,Array.replicate_succ,Array.replicate_zero,List.push_toArray,List.append_toArray,List.nil_append,List.cons_append]
 refine wpIn_wide.2 ?_
 go_wp2_with fail
 go_step3
 go_wp2_with fail
 go_step3
 go_wp2_with fail
 refine(KC.out _ _ _ _).mono ?_
 rintro e wl ⟨rfl,hwl⟩
 dsimp only
 go_wp2_with fail
 refine(wpIn_wide (n:=9)).1 ?_
 have hI0:RepI w (w.heap.size+1) (w.heap.size+1+1) (w.heap.size+1+1+1) ⟨[],[]⟩ wl:=by
  have e0:=heapNew w (.cells #[.slice none 0 0,.slice none 0 0] 43)
  generalize hA:w.alloc (.cells #[.slice none 0 0,.slice none 0 0] 43)=W1 at e0 hwl
  have s1:W1.heap.size=w.heap.size+1:=by rw[← hA,World.size_alloc]
  have g1:Grew w W1:=by rw[← hA];exact(Grew.refl w).alloc _
  have e1:=heapNew W1 (.cells #[.slice none 0 0,.slice none 0 0] 43)
  generalize hB:W1.alloc (.cells #[.slice none 0 0,.slice none 0 0] 43)=W2 at e1 hwl
  have s2:W2.heap.size=w.heap.size+1+1:=by rw[← hB,World.size_alloc,s1]
  have g2:Grew W1 W2:=by rw[← hB];exact(Grew.refl W1).alloc _
  have e2:=heapNew W2 (.cells #[.int .i64 (-1)] 3)
  generalize hC:W2.alloc (.cells #[.int .i64 (-1)] 3)=W3 at e2 hwl
  have s3:W3.heap.size=w.heap.size+1+1+1:=by rw[← hC,World.size_alloc,s2]
  have g3:Grew W2 W3:=by rw[← hC];exact(Grew.refl W2).alloc _
  have e3:=heapNew W3 (.cells #[.int .i64 0] 30)
  generalize hD:W3.alloc (.cells #[.int .i64 0] 30)=W4 at e3 hwl
  have g4:Grew W3 W4:=by rw[← hD];exact(Grew.refl W3).alloc _
  have g5:Grew W4 wl:=by rw[← hwl];exact(Grew.refl W4).alloc _
  rw[s1] at e1
  rw[s2] at e2
  rw[s3] at e3
  exact⟨(((g1.trans g2).trans g3).trans g4).trans g5,heapKeep (((g2.trans g3).trans g4).trans g5) e0,⟨none,0,0,none,0,0,heapKeep ((g3.trans g4).trans g5) e1,trOk_nil _⟩,heapKeep (g4.trans g5) e2,heapKeep g5 e3⟩
 have hsz:wl.heap.size=w.heap.size+1+1+1+1+1:=by rw[← hwl];simp only [World.size_alloc]
 have hLx:Boxed wl (w.heap.size+1+1+1+1) 22 (.slice A l.length c):=by
  have:=Boxed.new ((((w.alloc (.cells #[.slice none 0 0,.slice none 0 0] 43)).alloc (.cells #[.slice none 0 0,.slice none 0 0] 43)).alloc (.cells #[.int .i64 (-1)] 3)).alloc (.cells #[.int .i64 0] 30)) 22 (.slice A l.length c)
  rw[hwl] at this
  simpa only [World.size_alloc] using this
 simp only [World.size_alloc]
 clear hwl
 have hAt:RepAt w (w.heap.size+1) (w.heap.size+1+1) (w.heap.size+1+1+1) (w.heap.size+1+1+1+1) wl.heap.size:=⟨by omega,by omega,by omega,by omega,by omega⟩
 clear hsz
 generalize w.heap.size+1+1+1+1=LB at hLx hAt ⊢
 generalize w.heap.size+1+1+1=EB at hI0 hAt ⊢
 generalize w.heap.size+1+1=AT at hI0 hAt ⊢
 generalize w.heap.size+1=TB at hI0 hAt ⊢
 have HAT:=Lib.hid hAt
 have hst:=KS.out (fun k=>k=TB∨k=AT∨k=EB) wl.heap.size LB 8 wl hAt.n (by have:=hAt.t;have:=hAt.a;have:=hAt.e;have:=hAt.l;omega) hI0.g hLx
 have HI0:=Lib.hid hI0
 have HN:=Lib.hid (show w.heap.size≤wl.heap.size from hI0.g.size)
 clear hI0 hLx hAt KS KC
 refine wpIn_rangeS rfl (by omega) (gf:=69) (lb:=#[.pointer (some ⟨LB,0,none⟩)]) rfl trivial (enters_of Tryz.func69 (by kernel_rfl) rfl) HN.out hst (fun _=>rfl)
  (fun pre W=>(replayI pre ⟨[],[]⟩).2.2=0∧FewTr (replayI pre ⟨[],[]⟩).1∧RepI w TB AT EB (replayI pre ⟨[],[]⟩).1 W)
  (fun c pre W=>c=.exit 0∧∃ i f,f≠0∧replayI pre ⟨[],[]⟩=(⟨[],[]⟩,i,f)∧RepX w AT EB i f W)
  (fun _ _ _ _ hs hg hr=>⟨hs.1,hs.2.1,hs.2.2.turn HAT.out hg hr⟩)
  (fun _ _ _ _ _ hs hg hr=>⟨hs.1,hs.2.imp fun i h=>h.imp fun f h=>⟨h.1,h.2.1,h.2.2.turn HAT.out hg (fun r e=>(hr r e).1)⟩⟩)
  ⟨rfl,fewTr_nil,HI0.out⟩
  (RepA w TB AT EB LB (.slice A l.length c))
  (fun x a' _ W W' row h hg hr=>by
   obtain⟨OB,h1,h2⟩:=h
   exact⟨OB,h1,heapTurn hg h2 (fun r e k=>by have:=(hr r e).2 _ (by rw[k];exact h2);cases this)⟩)
  ?assign ?body ?done ?stop
 case assign =>
  rintro ll ⟨xi,⟨o0,o1,o2,o3,o4,o5,o6,o7,o8,o9,o10,o11⟩⟩ W K hs hK
  dsimp only [Opn.agg]
  gi_wp2
  exact hK _ _ ((Grew.refl W).alloc _) ⟨W.heap.size,rfl,heapNew _ _⟩
 case body =>
  rintro ll pre ⟨xi,o⟩ a' W ⟨hz,hf,hB⟩ ⟨OB,rfl,hO⟩ hSp
  obtain⟨A1,n1,c1,B1,m1,d1,ht,hT⟩:=hB.tr
  have hw:=HWF.out (xi,o) (hSp.subset (by simp))
  have t0:W.cell? ⟨TB,0,none⟩=some (.slice A1 n1 c1):=cellOf ht rfl
  have t1:W.cell? ⟨TB,1,none⟩=some (.slice B1 m1 d1):=cellOf ht rfl
  have hk:=KA.out _ o _ _ W hB.g hT hf hw
  have hs:=replay_snoc (x:=(xi,o)) hz
  have hY:=Lib.hid (fun h=>fewTr_right (applyR_right (t:=(replayI pre ⟨[],[]⟩).1) (o:=o) h).2)
  unfold RetTr at hk
  dsimp only at hs hw
  generalize applyR (replayI pre ⟨[],[]⟩).1 o=R at hk hs hY
  obtain⟨T,n⟩:=R
  have HB:=Lib.hid hB
  have HWS:=Lib.hid hB.g.size
  generalize hRES:replayI (pre++[(xi,o)]) ⟨[],[]⟩=RES at hs
  obtain⟨o0,o1,o2,o3,o4,o5,o6,o7,o8,o9,o10,o11⟩:=o
  have q0:W.cell? ⟨OB,0,none⟩=some (.int .i64 o0):=cellOf hO rfl
  have q1:W.cell? ⟨OB,1,none⟩=some (.int .i64 o1):=cellOf hO rfl
  have q2:W.cell? ⟨OB,2,none⟩=some (.int .i64 o2):=cellOf hO rfl
  have q3:W.cell? ⟨OB,3,none⟩=some (.int .i64 o3):=cellOf hO rfl
  have q4:W.cell? ⟨OB,4,none⟩=some (.int .i64 o4):=cellOf hO rfl
  have q5:W.cell? ⟨OB,5,none⟩=some (.int .i64 o5):=cellOf hO rfl
  have q6:W.cell? ⟨OB,6,none⟩=some (.int .i64 o6):=cellOf hO rfl
  have q7:W.cell? ⟨OB,7,none⟩=some (.string o7):=cellOf hO rfl
  have q8:W.cell? ⟨OB,8,none⟩=some (.string o8):=cellOf hO rfl
  have q9:W.cell? ⟨OB,9,none⟩=some (.int .i64 o9):=cellOf hO rfl
  have q10:W.cell? ⟨OB,10,none⟩=some (.int .i64 o10):=cellOf hO rfl
  have q11:W.cell? ⟨OB,11,none⟩=some (.int .i64 o11):=cellOf hO rfl
  unfold Opn.agg at hk
  dsimp only [Opn.agg] at hk hs hY ⊢
  have HK:=Lib.hid hk
  have HS:=Lib.hid hs
  have HRES:=Lib.hid hRES
  clear hk hs hB hT ht hO hw hz hf hst HI0 HWF KA hSp hRES
  gi_wp2_with fail
  refine⟨trivial,(callsIn_wide.2 HK.out).mono ?_⟩
  rintro e w3 ⟨rv,bv,rfl,hT3,g3⟩
  obtain⟨A2,c2,rfl,-⟩:=SlI.open_ hT3.1
  obtain⟨B2,d2,rfl,-⟩:=SlBr.open_ hT3.2
  have HT4:=Lib.hid (hT3.mono ((Grew.refl w3).alloc (.cells #[.slice A2 T.roots.length c2,.slice B2 T.brs.length d2] 43)))
  have HB4:=Lib.hid (HB.out.grew HAT.out (g3.alloc (.cells #[.slice A2 T.roots.length c2,.slice B2 T.brs.length d2] 43)))
  have HG4:=Lib.hid (g3.alloc (.cells #[.slice A2 T.roots.length c2,.slice B2 T.brs.length d2] 43))
  obtain⟨A3,n3,c3,B3,m3,d3,ht4,-⟩:=HB4.out.tr
  have t0:=cellOf (i:=0) (x:=.slice A3 n3 c3) ht4 rfl
  have t1:=cellOf (i:=1) (x:=.slice B3 m3 d3) ht4 rfl
  have f0:=freeOf (i:=0) ht4
  have f1:=freeOf (i:=1) ht4
  have a0:=HB4.out.at_.cell
  have b0:=HB4.out.at_.frozen
  have a1:=HB4.out.er.cell
  have b1:=HB4.out.er.frozen
  clear hT3 g3 ht4 HK q0 q1 q2 q3 q4 q5 q6 q7 q8 q9 q10 q11 HB
  dsimp only
  by_cases hn:n=0
  ·subst hn
   have hs:=HS.out
   rw[if_pos rfl] at hs
   have HS2:=Lib.hid hs
   have HY:=Lib.hid (hY.out rfl)
   clear hs HS hY
   gi_wp2
   refine⟨(keepsG HG4.out).trans ((KeepsOthers.setCell _ _ _).trans (KeepsOthers.setCell _ _ _)),(KpS.grew HWS.out HG4.out).trans (HB4.out.kp2 HAT.out _ _),?_⟩
   dsimp only
   rw[HRES.out,HS2.out]
   exact⟨rfl,HY.out,HB4.out.put HAT.out HT4.out⟩
  ·have hb:(n == 0)=false:=by simpa using hn
   have hs:=HS.out
   rw[if_neg hn] at hs
   have HS2:=Lib.hid hs
   have HNN:=Lib.hid hn
   have hne:Boxed ((w3.alloc (.cells #[.slice A2 T.roots.length c2,.slice B2 T.brs.length d2] 43)).setCell ⟨AT,0,none⟩ (.int .i64 xi)) EB 30 (.int .i64 0):=HB4.out.er.kept (grownSet _ AT 0 _) (fun e=>by cases e;have:=HAT.out.e;omega)
   have a2:=hne.cell
   have b2:=hne.frozen
   clear hs HS hY hn hne
   gi_wp2
   refine⟨(keepsG HG4.out).trans ((KeepsOthers.setCell _ _ _).trans (KeepsOthers.setCell _ _ _)),rfl,xi,n,HNN.out,?_,HB4.out.stop HAT.out _ _⟩
   rw[HRES.out,HS2.out]
 case done =>
  rintro D xs W hD rfl ⟨hz,hf,hB⟩ hK
  obtain⟨A1,n1,c1,B1,m1,d1,ht,hT⟩:=hB.tr
  have h2:=replay_two _ _ hz
  have hr:=HR.out
  obtain⟨RT,ri,rf⟩:=RR
  rw[hr] at h2 hT
  dsimp only at h2 hT
  obtain⟨rfl,rfl⟩:=Prod.mk.inj h2
  have FIN:=Lib.hid (put_fin hB.res hB.g (by have:=HN.out;omega) hK ⟨by simp,by simp⟩ hT)
  have t0:W.cell? ⟨TB,0,none⟩=some (.slice A1 n1 c1):=cellOf ht rfl
  have t1:W.cell? ⟨TB,1,none⟩=some (.slice B1 m1 d1):=cellOf ht rfl
  have r0:W.cell? ⟨w.heap.size,0,none⟩=some (.slice none 0 0):=cellOf hB.res rfl
  have r1:W.cell? ⟨w.heap.size,1,none⟩=some (.slice none 0 0):=cellOf hB.res rfl
  have f0:W.frozen? ⟨w.heap.size,0,none⟩=false:=freeOf hB.res
  have f1:W.frozen? ⟨w.heap.size,1,none⟩=false:=freeOf hB.res
  have e0:=hB.er.cell
  have HK:=Lib.hid hK
  clear hz hf hB hK ht hT h2 hr HR hst HI0 HWF KA
  go_wp2
  rw[Exit.noGoto_ret]
  refine⟨by simp,.inl ⟨_,_,rfl,run_takeDeferred (((KeepsOthers.setCell _ _ _).trans (KeepsOthers.setCell _ _ _)).same _ _ HK.out rfl),?_⟩⟩
  obtain⟨z0,z1,z2,z3⟩:=FIN.out
  exact⟨.tuple #[.agg #[.slice A1 n1 c1,.slice B1 m1 d1],.int .i64 (-1),.int .i64 0],by simp[results,Tryz.results49,go_sem,z0,z1],_,_,rfl,z2,z3⟩
 case stop =>
  rintro D c pre W hD ⟨suf,hSp⟩ ⟨rfl,i,f,hf,hp,hX⟩ hK
  have hr:=HR.out
  rw[← hSp,replay_stop (by rw[hp];exact hf),hp] at hr
  subst hr
  have fin:=put_fin (W:=W.drew) (t:=⟨[],[]⟩) (a:=.slice none 0 0) (b:=.slice none 0 0) hX.res hX.g.drew (by have:=HN.out;omega) hK ⟨by simp,by simp⟩ (trOk_nil _)
  rw[show(W.drew.setCell ⟨w.heap.size,0,none⟩ (.slice none 0 0)).setCell ⟨w.heap.size,1,none⟩ (.slice none 0 0)=((W.setCell ⟨w.heap.size,0,none⟩ (.slice none 0 0)).setCell ⟨w.heap.size,1,none⟩ (.slice none 0 0)).drew from rfl] at fin
  have FIN:=Lib.hid fin
  clear fin
  have r0:W.cell? ⟨w.heap.size,0,none⟩=some (.slice none 0 0):=cellOf hX.res rfl
  have r1:W.cell? ⟨w.heap.size,1,none⟩=some (.slice none 0 0):=cellOf hX.res rfl
  have f0:W.frozen? ⟨w.heap.size,0,none⟩=false:=freeOf hX.res
  have f1:W.frozen? ⟨w.heap.size,1,none⟩=false:=freeOf hX.res
  have a0:=hX.at_.cell
  have e0:=hX.er.cell
  have hb:(f != 0)=true:=by simpa using hf
  have hn1:AT≠w.heap.size:=by have:=HAT.out.t;have:=HAT.out.a;omega
  have hn2:EB≠w.heap.size:=by have:=HAT.out.t;have:=HAT.out.a;have:=HAT.out.e;omega
  have a1:((W.setCell ⟨w.heap.size,0,none⟩ (.slice none 0 0)).setCell ⟨w.heap.size,1,none⟩ (.slice none 0 0)).cell? ⟨AT,0,none⟩=some (.int .i64 i):=by
   rw[World.cell?_setCell_other _ _ _ _ (by simp),World.cell?_setCell_other _ _ _ _ (by simp)];exact a0
  have e1:((W.setCell ⟨w.heap.size,0,none⟩ (.slice none 0 0)).setCell ⟨w.heap.size,1,none⟩ (.slice none 0 0)).cell? ⟨EB,0,none⟩=some (.int .i64 f):=by
   rw[World.cell?_setCell_other _ _ _ _ (by simp),World.cell?_setCell_other _ _ _ _ (by simp)];exact e0
  clear hn1 hn2
  have HK:=Lib.hid hK
  clear hf hp hX hK HR hst HI0 HWF KA hSp
  gi_wp2_with fail
  go_wp2_with fail
  go_region
  all_goals go_wp2
  all_goals rw[Exit.noGoto_ret]
  all_goals
   refine⟨by simp,.inl ⟨_,_,rfl,run_takeDeferred (((KeepsOthers.setCell _ _ _).trans (KeepsOthers.setCell _ _ _)).same _ _ HK.out rfl),?_⟩⟩
   obtain⟨z0,z1,z2,z3⟩:=FIN.out
   exact⟨.tuple #[.agg #[.slice none 0 0,.slice none 0 0],.int .i64 i,.int .i64 f],by simp[results,Tryz.results49,go_sem,z0,z1],_,_,rfl,z2,z3⟩
end Go.Proofs.YtdochkemaiokfaaGreat
/- slices.IndexFunc at operations and at evidence. No condition but that the function that is handed over answers as p does. -/
namespace Go.Proofs.YtdochkemaiokfaaGreat
open Go.RowKit
set_option maxHeartbeats 1000000 in
theorem indexFuncO (l:List Opn) (p:Opn→Bool) (g:Nat) (lb:Array Value) (eg:∀ args w,(callFunc g args).run Tryz.prog w=.ok (.enter g args) w) (v:Value) (w:World) (hv:SlO w v l)
  (hp:∀ W x,Grew w W→x∈l→Calls Tryz.prog g (#[x.agg]++lb) W fun e w'=>e=.returned (.bool (p x))∧Grew W w') :
  Calls Tryz.prog 59 #[v,.func (.func g) #[] lb] w fun e w'=>e=.returned (.int .i64 (idxP p l))∧Grew w w':=by
 obtain⟨A,c,rfl,hlc,hc,hr⟩:=hv.open_
 unfold maxLen at hc
 have HR:=Lib.hid hr
 have HP:=Lib.hid hp
 clear hr hp hv
 go_enter Tryz.func59,Tryz.ntmps59
 go_wp2
 go_loopg [5,8] l.length (fun gg _ s8 wr=>∃ kk:Nat,kk≤l.length∧l.length-kk≤gg∧s8=.int .i64 kk∧Aside (Grew w wr)∧Aside (∀ i (hi:i<l.length),i<kk→p l[i]=false))
 case atStart=>exact⟨0,Nat.zero_le _,by omega,rfl,Grew.refl w,fun i hi h=>absurd h (Nat.not_lt_zero _)⟩
 case round =>
  obtain⟨kk,hkk,hg,rfl,BW,M⟩:=hrel
  by_cases hlt:kk<l.length
  ·obtain⟨b,off,rfl,hb,hcell⟩:=HR.out (by omega)
   obtain⟨c0,c1,c2,c3,c4,c5,c6,c7,c8,c9,c10,c11⟩:=hcell wr BW.out kk hlt
   have hcall:=HP.out wr l[kk] BW.out (List.getElem_mem hlt)
   have hltz:(kk:Int)<(l.length:Int):=by omega
   clear hcell
   generalize hy:l[kk]=y at c0 c1 c2 c3 c4 c5 c6 c7 c8 c9 c10 c11 hcall
   have B:Aside (l[kk]=y):=hy
   clear hy
   unfold Opn.agg at hcall
   cases hq:p y with
   | true =>
    rw[hq] at hcall
    go_wp2_with (go_at_fn g;refine hcall.mono ?_;rintro e w' ⟨rfl,hb'⟩)
    go_ret
    refine⟨?_,BW.out.trans hb'⟩
    rw[idxP_hit p l kk hlt (by rw[B.out];exact hq) M.out]
    rfl
   | false =>
    rw[hq] at hcall
    go_wp2_with (go_at_fn g;refine hcall.mono ?_;rintro e w' ⟨rfl,hb'⟩)
    go_roundg (l.length-(kk+1))
    case measure=>omega
    case rel =>
     refine⟨kk+1,by omega,by omega,by go_num,BW.out.trans hb',(show Aside _ from fun i hi h=>?_)⟩
     by_cases e:i=kk
     ·subst e
      rw[B.out];exact hq
     ·exact M.out i hi (by omega)
  ·have hltz:¬ (kk:Int)<(l.length:Int):=by omega
   go_wp2
   go_ret
   refine⟨?_,BW.out⟩
   rw[idxP_miss p l (fun i hi=>M.out i hi (by omega))]
   rfl
set_option maxHeartbeats 1000000 in
theorem indexFuncC (l:List Cm) (p:Cm→Bool) (g:Nat) (lb:Array Value) (eg:∀ args w,(callFunc g args).run Tryz.prog w=.ok (.enter g args) w) (v:Value) (w:World) (hv:SlC w v l)
  (hp:∀ W x,Grew w W→x∈l→Calls Tryz.prog g (#[x.agg]++lb) W fun e w'=>e=.returned (.bool (p x))∧Grew W w') :
  Calls Tryz.prog 61 #[v,.func (.func g) #[] lb] w fun e w'=>e=.returned (.int .i64 (idxP p l))∧Grew w w':=by
 obtain⟨A,c,rfl,hlc,hc,hr⟩:=hv.open_
 unfold maxLen at hc
 have HR:=Lib.hid hr
 have HP:=Lib.hid hp
 clear hr hp hv
 go_enter Tryz.func61,Tryz.ntmps61
 go_wp2
 go_loopg [5,8] l.length (fun gg _ s8 wr=>∃ kk:Nat,kk≤l.length∧l.length-kk≤gg∧s8=.int .i64 kk∧Aside (Grew w wr)∧Aside (∀ i (hi:i<l.length),i<kk→p l[i]=false))
 case atStart=>exact⟨0,Nat.zero_le _,by omega,rfl,Grew.refl w,fun i hi h=>absurd h (Nat.not_lt_zero _)⟩
 case round =>
  obtain⟨kk,hkk,hg,rfl,BW,M⟩:=hrel
  by_cases hlt:kk<l.length
  ·obtain⟨b,off,rfl,hb,hcell⟩:=HR.out (by omega)
   obtain⟨c0,c1,c2,c3⟩:=hcell wr BW.out kk hlt
   have hcall:=HP.out wr l[kk] BW.out (List.getElem_mem hlt)
   have hltz:(kk:Int)<(l.length:Int):=by omega
   clear hcell
   generalize hy:l[kk]=y at c0 c1 c2 c3 hcall
   have B:Aside (l[kk]=y):=hy
   clear hy
   unfold Cm.agg at hcall
   cases hq:p y with
   | true =>
    rw[hq] at hcall
    go_wp2_with (go_at_fn g;refine hcall.mono ?_;rintro e w' ⟨rfl,hb'⟩)
    go_ret
    refine⟨?_,BW.out.trans hb'⟩
    rw[idxP_hit p l kk hlt (by rw[B.out];exact hq) M.out]
    rfl
   | false =>
    rw[hq] at hcall
    go_wp2_with (go_at_fn g;refine hcall.mono ?_;rintro e w' ⟨rfl,hb'⟩)
    go_roundg (l.length-(kk+1))
    case measure=>omega
    case rel =>
     refine⟨kk+1,by omega,by omega,by go_num,BW.out.trans hb',(show Aside _ from fun i hi h=>?_)⟩
     by_cases e:i=kk
     ·subst e
      rw[B.out];exact hq
     ·exact M.out i hi (by omega)
  ·have hltz:¬ (kk:Int)<(l.length:Int):=by omega
   go_wp2
   go_ret
   refine⟨?_,BW.out⟩
   rw[idxP_miss p l (fun i hi=>M.out i hi (by omega))]
   rfl
end Go.Proofs.YtdochkemaiokfaaGreat
/- What came by an accession counts; undoing twice, plainly. No condition. -/
namespace Go.Proofs.YtdochkemaiokfaaGreat
open Go.RowKit
theorem ids_same {l:List Opn} (h:l.Pairwise fun a b=>a.id<b.id) {p q:Opn} (hp:p∈l) (hq:q∈l) (he:p.id=q.id):p=q:=by
 induction l with
 | nil=>cases hp
 | cons x r ih =>
  obtain⟨h1,h2⟩:=List.pairwise_cons.1 h
  rcases List.mem_cons.1 hp with rfl|hp1
  ·rcases List.mem_cons.1 hq with rfl|hq1
   ·rfl
   ·have:=h1 q hq1;omega
  ·rcases List.mem_cons.1 hq with rfl|hq1
   ·have:=h1 p hp1;omega
   ·exact ih h2 hp1 hq1
theorem adm_held {l:List Opn} (h:AdmL l):∀ p∈l,p.kind=1→p.acc≠0→countsB l p=true:=by
 induction h with
 | nil=>simp
 | @snoc l o h ha ih =>
  obtain⟨h1,h2,h3,h4⟩:=fault_zero (admit_fault ha)
  have hok:=adm_ok h
  intro p hp hk hacc
  rcases List.mem_append.1 hp with hp|hp
  ·have hc:=ih p hp hk hacc
   rw[counts_snoc]
   by_cases h6:o.kind=6
   ·obtain⟨q,hq,hno⟩:=h4 h6
    obtain⟨k1,k2,k3⟩:=find_op hq
    by_cases hu:o.unit=p.id
    ·have:q=p:=ids_same hok.ids k1 hp (by rw[k2,hu])
     rw[this] at hno
     exact absurd ⟨hk,hacc,hc⟩ hno
    ·unfold countsB at hc
     have hf:(o.unit == p.id)=false:=by simpa using hu
     rw[hf,Bool.and_false]
     cases hz:undoneF l p.id
     ·rw[hz] at hc;simpa using hc
     ·rw[hz] at hc;simp at hc
   ·have:=counts_plain (l:=l) h6 p
    rw[counts_snoc] at this
    rw[this]
    exact hc
  ·obtain rfl:=List.mem_singleton.1 hp
   have h6:p.kind≠6:=by omega
   rw[counts_plain h6]
   unfold countsB undoneF
   rw[List.countP_eq_zero.2 (fun x hx=>by
    simp only [Bool.and_eq_true,beq_iff_eq,not_and]
    exact undo_before hok (fun q hq=>(late_no h3 hq).1) x hx)]
   simpa using h6
end Go.Proofs.YtdochkemaiokfaaGreat
/- Undoing an operation twice, plainly. No condition. -/
namespace Go.Proofs.YtdochkemaiokfaaGreat
open Go.RowKit
def undoO (id day u:Int):Opn:=⟨id,day,6,u,0,0,0,⟨#[]⟩,⟨#[]⟩,0,0,0⟩
def nextU (l:List Opn) (u:Int):Opn:=match l.getLast? with
 | none=>undoO 1 0 u
 | some p=>undoO (p.id+1) p.day u
theorem next_undo (l:List Opn) (u:Int):∃ i d,nextU l u=undoO i d u:=by
 unfold nextU
 cases l.getLast? with
 | none=>exact⟨_,_,rfl⟩
 | some p=>exact⟨_,_,rfl⟩
theorem next_snoc (l:List Opn) (i d v u:Int):nextU (l++[undoO i d v]) u=undoO (i+1) d u:=by
 unfold nextU
 rw[last_snoc]
 rfl
theorem undo_formed (i d u:Int):formedO (undoO i d u)=(within i 1 1073741824 && (within d 0 1048575 && within u 1 1073741824)):=by
 have hk:kindF (undoO i d u)=true:=by
  have he:emptyS ⟨#[]⟩=true:=by decide +kernel
  unfold kindF undoO
  simp[noPlace,noOrigin,he]
 unfold formedO
 rw[hk,Bool.and_true]
 rfl
theorem find_snoc {l:List Opn} {u:Int} {p o:Opn} (h:findO l u=some p):findO (l++[o]) u=some p:=by
 unfold findO at h ⊢
 rw[List.find?_append,h]
 rfl
theorem undo_fault {l:List Opn} {i d u:Int} {p:Opn} (h1:l.length<512) (h2:formedO (undoO i d u)=true) (h3:lateB l (undoO i d u)=false) (h4:findO l u=some p) (h5:¬ (p.kind=1∧p.acc≠0∧countsB l p=true)):faultK l (undoO i d u)=0:=by
 unfold faultK
 rw[if_neg (by omega),if_neg (by rw[h2];simp),if_neg (by rw[h3];simp),if_neg (fun h=>absurd h.1 (show ¬ (6:Int)=1 by decide)),if_neg (by simp[marksB,undoO]),if_neg (fun h=>absurd h.1 (show ¬ (6:Int)=5 by decide)),if_pos (show(undoO i d u).kind=6 from rfl)]
 show(match findO l u with
  | none=>7
  | some p=>if p.kind=1∧p.acc≠0∧countsB l p=true then 21 else 0:Int)=0
 rw[h4]
 exact if_neg h5
theorem replay_twice {l:List Opn} {i d j e u:Int}:replayF (l++[undoO i d u]++[undoO j e u])=replayF l:=by
 unfold replayF
 rw[countI_twice (o:=undoO i d u) (p:=undoO j e u) rfl rfl rfl]
theorem twice_ok {l:List Opn} {u:Int} (h:AdmL l) (ha:(admitT l (replayF l).1 (nextU l u)).2.2=0) (hlen:l.length≤24) (hid:(nextU l u).id≠1073741824) :
  AdmL (l++[nextU l u])∧(admitT (l++[nextU l u]) (replayF (l++[nextU l u])).1 (nextU (l++[nextU l u]) u)).2.2=0∧replayF (l++[nextU l u]++[nextU (l++[nextU l u]) u])=replayF l:=by
 have hm:=AdmL.snoc h ha
 obtain⟨i,d,hn⟩:=next_undo l u
 rw[hn] at ha hid hm ⊢
 rw[next_snoc]
 obtain⟨h1,h2,h3,h4⟩:=fault_zero (admit_fault ha)
 obtain⟨p,hp,hno⟩:=h4 rfl
 obtain⟨k1,k2,k3⟩:=find_op hp
 refine⟨hm,?_,replay_twice⟩
 have hf:faultK (l++[undoO i d u]) (undoO (i+1) d u)=0:=by
  refine undo_fault (p:=p) (by rw[List.length_append,List.length_singleton];omega) ?_ ?_ (find_snoc hp) (fun hc=>hno ⟨hc.1,hc.2.1,adm_held h p k1 hc.1 hc.2.1⟩)
  ·rw[undo_formed] at h2 ⊢
   have hid2:i≠1073741824:=hid
   simp only [within,Bool.and_eq_true,decide_eq_true_eq] at h2 ⊢
   omega
  ·unfold lateB
   rw[last_snoc]
   show(decide (i+1≤i) || decide (d<d))=false
   rw[decide_eq_false (by omega),decide_eq_false (by omega)]
   rfl
 unfold admitT
 rw[if_neg (by rw[hf];simp),if_pos (show(undoO (i+1) d u).kind=6 from rfl),replay_twice]
 have hz:(replayF l).2.2=0:=by rw[adm_tree h]
 rw[if_neg (by rw[hz];simp)]
end Go.Proofs.YtdochkemaiokfaaGreat
/- Undoing the last operation, and undoing one that counts, plainly. No condition. -/
namespace Go.Proofs.YtdochkemaiokfaaGreat
open Go.RowKit
theorem replay_ops:∀(a b:List (Int × Opn)) (t:Tr),a.map Prod.snd=b.map Prod.snd→(replayI a t).1=(replayI b t).1∧((replayI a t).2.2=(replayI b t).2.2)
 | [],[],_,_=>⟨rfl,rfl⟩
 | [],_::_,_,h=>by cases h
 | _::_,[],_,h=>by cases h
 | (i,o)::a,(j,p)::b,t,h=>by
  rw[List.map_cons,List.map_cons,List.cons.injEq] at h
  obtain⟨h1,h2⟩:=h
  have h1:o=p:=h1
  subst h1
  rw[replayI,replayI]
  by_cases h0:(applyR t o).2=0
  ·rw[if_pos h0,if_pos h0]
   exact replay_ops a b _ h2
  ·rw[if_neg h0,if_neg h0]
   exact⟨rfl,rfl⟩
theorem idx_snd (l:List Opn):(idxL l).map Prod.snd=l:=by
 unfold idxL
 rw[List.map_snd_zip (by simp)]
theorem countI_snd (l:List Opn):(countI l).map Prod.snd=l.filter (countsB l):=by
 have h:(countI l).map Prod.snd=((idxL l).map Prod.snd).filter (countsB l):=by
  rw[countI_idx,List.filter_map]
  rfl
 rw[h,idx_snd]
theorem undo_takes {l:List Opn} {i d u:Int} {p:Opn} (h:LogOk l) (hp:p∈l) (hu:p.id=u) (hc:countsB l p=true) (x:Opn) (hx:x∈l):countsB (l++[undoO i d u]) x=(countsB l x && x.id != u):=by
 rw[counts_snoc]
 have hk:(undoO i d u).kind=6:=rfl
 have hun:(undoO i d u).unit=u:=rfl
 rw[hk,hun]
 by_cases he:x.id=u
 ·obtain rfl:x=p:=ids_same h.ids hx hp (by rw[he,hu])
  have h1:(x.id != u)=false:=by rw[he];simp
  have h2:(u == x.id)=true:=by rw[he];simp
  unfold countsB at hc
  rw[h1,h2,Bool.and_false]
  cases hz:undoneF l x.id
  ·simp
  ·rw[hz] at hc;simp at hc
 ·have h1:(x.id != u)=true:=by simpa using he
  have h2:(u == x.id)=false:=by
   rw[beq_eq_false_iff_ne]
   exact fun e=>he e.symm
  rw[h1,h2,Bool.and_true,Bool.and_false]
  unfold countsB
  cases undoneF l x.id<;>rfl
theorem undo_self (l:List Opn) (i d u:Int):countsB (l++[undoO i d u]) (undoO i d u)=false:=rfl
def restL (l:List Opn) (u:Int):List Opn:=l.filter fun o=>!(o.id == u || (o.kind == 6 && o.unit == u))
theorem rest_counts {l:List Opn} {u:Int} {p:Opn} (h:LogOk l) (hp:p∈l) (hu:p.id=u) (hc:countsB l p=true) (x:Opn) (hx:x.id≠u):countsB (restL l u) x=countsB l x:=by
 unfold countsB undoneF
 congr 3
 unfold restL
 rw[List.countP_filter]
 congr 1
 refine List.countP_congr fun y hy=>?_
 simp only [Bool.and_eq_true,beq_iff_eq,Bool.not_eq_true',Bool.or_eq_false_iff,beq_eq_false_iff_ne,Bool.and_eq_false_iff,ne_eq]
 constructor
 ·exact fun h1=>h1.1
 ·rintro ⟨h1,h2⟩
  refine⟨⟨h1,h2⟩,?_,?_⟩
  ·intro e
   have:y=p:=ids_same h.ids hy hp (by rw[e,hu])
   rw[this] at h1
   unfold countsB at hc
   rw[h1] at hc
   cases hc
  ·exact .inr fun e=>hx (by rw[← h2,e])
theorem without_ops {l:List Opn} {i d u:Int} {p:Opn} (h:LogOk l) (hp:p∈l) (hu:p.id=u) (hc:countsB l p=true):(countI (l++[undoO i d u])).map Prod.snd=(countI (restL l u)).map Prod.snd:=by
 rw[countI_snd,countI_snd,List.filter_append,List.filter_cons_of_neg (by rw[undo_self];decide),List.filter_nil,List.append_nil]
 unfold restL
 rw[List.filter_filter]
 refine List.filter_congr fun x hx=>?_
 rw[undo_takes h hp hu hc x hx]
 by_cases he:x.id=u
 ·simp[he]
 ·rw[show(List.filter (fun o=>!(o.id == u || o.kind == 6 && o.unit == u)) l)=restL l u from rfl,rest_counts h hp hu hc x he]
  have h1:(x.id == u)=false:=by simpa using he
  have h2:(x.id != u)=true:=by simpa using he
  rw[h1,h2,Bool.false_or,Bool.and_true]
  unfold countsB
  cases h6:(x.kind == 6)
  ·simp
  ·have:(x.kind != 6)=false:=by simpa using h6
   simp[this]
theorem without_ok {l:List Opn} {i d u:Int} {p:Opn} (h:AdmL l) (hp:p∈l) (hu:p.id=u) (hc:countsB l p=true):(replayF (l++[undoO i d u])).1=(replayF (restL l u)).1 :=
 (replay_ops _ _ _ (without_ops (adm_ok h) hp hu hc)).1
theorem last_ok {m:List Opn} {o:Opn} {i d:Int} (h:AdmL (m++[o])) (ha:(admitT (m++[o]) (replayF (m++[o])).1 (undoO i d o.id)).2.2=0):o.kind≠6∧(replayF (m++[o]++[undoO i d o.id])).1=(replayF m).1:=by
 have hok:=adm_ok h
 obtain⟨h1,h2,h3,h4⟩:=fault_zero (admit_fault ha)
 obtain⟨p,hp,-⟩:=h4 rfl
 obtain⟨k1,k2,k3⟩:=find_op hp
 have k2:p.id=o.id:=k2
 obtain rfl:p=o:=ids_same hok.ids k1 (by simp) k2
 refine⟨k3,?_⟩
 obtain⟨hm,hao⟩:=adm_inv h
 obtain⟨-,-,g3,-⟩:=fault_zero (admit_fault hao)
 have hno:=undo_before (adm_ok hm) fun q hq=>(late_no g3 hq).1
 have hcp:countsB (m++[p]) p=true:=by
  rw[counts_plain k3]
  unfold countsB undoneF
  rw[List.countP_eq_zero.2 (fun x hx=>by
   simp only [Bool.and_eq_true,beq_iff_eq,not_and]
   exact hno x hx)]
  simpa using k3
 rw[without_ok h k1 rfl hcp]
 refine(replay_ops _ _ _ ?_).1
 rw[countI_snd,countI_snd]
 have:restL (m++[p]) p.id=m:=by
  unfold restL
  rw[List.filter_append,List.filter_cons_of_neg (by simp),List.filter_nil,List.append_nil]
  refine List.filter_eq_self.2 fun x hx=>?_
  have hid:x.id≠p.id:=by
   have:=(List.pairwise_append.1 hok.ids).2.2 x hx p (by simp)
   omega
  have h6:¬ (x.kind=6∧x.unit=p.id):=fun h=>hno x hx h.1 h.2
  simp only [Bool.not_eq_true',Bool.or_eq_false_iff,beq_eq_false_iff_ne,Bool.and_eq_false_iff,ne_eq]
  refine⟨hid,?_⟩
  by_cases h7:x.kind=6
  ·exact .inr fun e=>h6 ⟨h7,e⟩
  ·exact .inl h7
 rw[this]
end Go.Proofs.YtdochkemaiokfaaGreat