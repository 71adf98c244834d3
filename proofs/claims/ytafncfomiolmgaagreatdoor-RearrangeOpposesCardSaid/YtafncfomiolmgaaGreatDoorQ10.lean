/- Lemmas on what the functions of the program and of the library compute: PlainCh, PlainCan, PlainOp, PlainOb, PlainOd, PlainRt, Es4, Es5, DelB. The conditions stand at each. -/
import Derived.Test.YtafncfomiolmgaaGreatDoorQ9
import Derived.Test.YtafncfomiolmgaaGreatDoorQ8
import Derived.Test.YtafncfomiolmgaaGreatDoorQ3
import Derived.Test.YtafncfomiolmgaaGreatDoorQ2
import Derived.Test.YtafncfomiolmgaaGreatDoorQ7
namespace Go.Proofs.YtafncfomiolmgaaGreatDoor
open Go.RowKit
structure ChgIs (a b:Tr) (l:List Int):Prop where
 asc:Asc l
 mem:∀ n,n∈l↔brFind (a.brs.map core) n≠brFind (b.brs.map core) n
theorem chg_unique {a b:Tr} {l m:List Int} (h:ChgIs a b l) (k:ChgIs a b m):l=m:=asc_ext h.asc k.asc fun n=>by rw[h.mem,k.mem]
theorem find_without {n u:Int} (hn:n≠u):∀ l:List Br,brFind (l.filter fun b=>!(b.id == u)) n=brFind l n
 | []=>rfl
 | y::r=>by
  have ih:=find_without hn r
  by_cases hy:y.id=u
  ·rw[List.filter_cons_of_neg (by simp[hy]),ih]
   unfold brFind
   rw[List.find?_cons_of_neg (by rw[hy];simpa using fun e=>hn e.symm)]
  ·rw[List.filter_cons_of_pos (by simpa using hy)]
   unfold brFind at ih ⊢
   rw[List.find?_cons,List.find?_cons,ih]
end Go.Proofs.YtafncfomiolmgaaGreatDoor
namespace Go.Proofs.YtafncfomiolmgaaGreatDoor
open Go.RowKit
theorem can_create {t:Tr} {o:Opn} (h:SoundM t) (hf:formedO o=true) (h1:o.kind=1) (h0:faultO t o=0):CanCreate t o:=by
 obtain⟨hC,hK⟩:=(sound_parts t).1 h
 unfold formedO at hf
 simp only [Bool.and_eq_true] at hf
 obtain⟨-,-,hu,hk⟩:=hf
 unfold kindF at hk
 unfold faultO at h0
 rw[if_pos h1] at hk h0
 simp only [Bool.and_eq_true] at hk
 unfold faultC at h0
 split at h0
 ·simp at h0
 rename_i e1
 split at h0
 ·simp at h0
 split at h0
 ·simp at h0
 rename_i e3
 split at h0
 ·simp at h0
 rename_i e4
 split at h0
 ·simp at h0
 rename_i e5
 split at h0
 ·simp at h0
 rename_i e6
 refine⟨?_,⟨hu,hk.2.1,hk.2.2.1,markE_ok hk.2.2.2.1⟩,(stands_iff hC.asc _ _).1 (by simpa using e3),fun hb=>?_,fun c hc hne=>?_,by omega⟩
 ·have:brFind t.brs o.unit=none:=by simpa using e1
  exact(find_none _).1 this
 ·by_cases hm:o.before∈childs t o.parent
  ·exact hm
  ·exact absurd ⟨hb,hm⟩ e4
 ·exact(used_no (by simpa using e5) c hc (fun e=>unit_pos (hC.units c hc) e) hne).symm
theorem can_move {t:Tr} {o:Opn} {u:Br} (h:SoundM t) (h2:o.kind=2) (h0:faultO t o=0) (hb:brFind t.brs o.unit=some u):CanMove t o u:=by
 obtain⟨hC,hK⟩:=(sound_parts t).1 h
 have hin:=find_in hb
 unfold faultO at h0
 rw[if_neg (by rw[h2];decide),if_pos h2] at h0
 unfold faultM at h0
 rw[hb] at h0
 simp only at h0
 split at h0
 ·simp at h0
 split at h0
 ·simp at h0
 rename_i e2
 split at h0
 ·simp at h0
 rename_i e3
 split at h0
 ·simp at h0
 rename_i e4
 refine⟨hin.1,hin.2,(stands_iff hC.asc _ _).1 (by simpa using e3),fun hud=>?_,fun hbf=>?_⟩
 ·rw[← hin.2] at hud e2
  exact e2 ((mem_below h hin.1 _).2 hud)
 ·rw[mem_without]
  by_cases hm:o.before∈childs t o.parent
  ·exact⟨hm,fun e=>e4 ⟨hbf,.inl e⟩⟩
  ·exact absurd ⟨hbf,.inr hm⟩ e4
theorem find_some_of {l:List Br} {p:Int} (h:p=0∨∃ b∈l,b.id=p):¬ (p≠0∧(brFind l p).isSome=false):=by
 rintro ⟨h1,h2⟩
 have hn:brFind l p=none:=by simpa using h2
 rcases h with h|⟨b,hb,e⟩
 ·exact h1 h
 ·exact(find_none p).1 hn b hb e
end Go.Proofs.YtafncfomiolmgaaGreatDoor
namespace Go.Proofs.YtafncfomiolmgaaGreatDoor
open Go.RowKit
def oppO (t:Tr) (o:Opn):Opn:=match brFind t.brs o.unit with
 | none=>⟨o.id,o.day,5,o.unit,0,0,0,⟨#[]⟩,⟨#[]⟩,0,0,0⟩
 | some u =>
  if o.kind=2 then⟨o.id,o.day,2,o.unit,u.parent,behindF o.unit (childs t u.parent),0,⟨#[]⟩,⟨#[]⟩,0,0,0⟩
  else if o.kind=3 then⟨o.id,o.day,3,o.unit,0,0,0,u.title,⟨#[]⟩,0,0,0⟩
  else if o.kind=4 then⟨o.id,o.day,4,o.unit,0,0,0,⟨#[]⟩,u.mark,0,0,0⟩
  else⟨o.id,o.day,1,o.unit,u.parent,behindF o.unit (childs t u.parent),u.level,u.title,u.mark,0,0,0⟩
theorem within_iff (a b c:Int):within a b c=true↔b≤a∧a≤c:=by
 unfold within
 simp
end Go.Proofs.YtafncfomiolmgaaGreatDoor
namespace Go.Proofs.YtafncfomiolmgaaGreatDoor
open Go.RowKit
theorem own_stands {t:Tr} (h:SoundM t) {u:Br} (hu:u∈t.brs):StandsT t.brs u.parent u.level:=(placed_mem h.asc u).1 (h.placed u hu)
end Go.Proofs.YtafncfomiolmgaaGreatDoor
namespace Go.Proofs.YtafncfomiolmgaaGreatDoor
open Go.RowKit
theorem newT_1 {t:Tr} {o:Opn} (h:o.kind=1):newT t o=createT t o:=by
 unfold newT
 rw[if_pos h]
theorem newT_2 {t:Tr} {o:Opn} {u:Br} (h:o.kind=2) (hb:brFind t.brs o.unit=some u):newT t o=moveT t o u:=by
 unfold newT
 rw[if_neg (by rw[h];decide),hb]
 simp only
 rw[if_pos h]
theorem newT_5 {t:Tr} {o:Opn} {u:Br} (h:o.kind=5) (hb:brFind t.brs o.unit=some u):newT t o=removeT t o u:=by
 unfold newT
 rw[if_neg (by rw[h];decide),hb]
 simp only
 rw[if_neg (by rw[h];decide),if_pos h]
theorem newT_3 {t:Tr} {o:Opn} {u:Br} (h:o.kind=3) (hb:brFind t.brs o.unit=some u):newT t o=setU t o.unit fun b=>{ b with title:=o.title }:=by
 unfold newT
 rw[if_neg (by rw[h];decide),hb]
 simp only
 rw[if_neg (by rw[h];decide),if_neg (by rw[h];decide),if_pos h]
theorem newT_4 {t:Tr} {o:Opn} {u:Br} (h:o.kind=4) (hb:brFind t.brs o.unit=some u):newT t o=setU t o.unit fun b=>{ b with mark:=o.mark }:=by
 unfold newT
 rw[if_neg (by rw[h];decide),hb]
 simp only
 rw[if_neg (by rw[h];decide),if_neg (by rw[h];decide),if_neg (by rw[h];decide)]
theorem faultO_1 {t:Tr} {o:Opn} (h:o.kind=1):faultO t o=faultC t o:=by
 unfold faultO
 rw[if_pos h]
theorem faultO_2 {t:Tr} {o:Opn} (h:o.kind=2):faultO t o=faultM t o:=by
 unfold faultO
 rw[if_neg (by rw[h];decide),if_pos h]
theorem faultO_5 {t:Tr} {o:Opn} (h:o.kind=5):faultO t o=faultR t o:=by
 unfold faultO
 rw[if_neg (by rw[h];decide),if_neg (by rw[h];decide),if_pos h]
theorem faultO_34 {t:Tr} {o:Opn} (h:o.kind=3∨o.kind=4):faultO t o=faultL t o:=by
 unfold faultO
 rw[if_neg b_37,if_neg b_37,if_neg b_37]
theorem kind_of {o:Opn} (h:formedO o=true) (h6:o.kind≠6):o.kind=1∨o.kind=2∨o.kind=3∨o.kind=4∨o.kind=5:=by
 unfold formedO at h
 simp only [Bool.and_eq_true] at h
 obtain⟨-,-,-,hk⟩:=h
 unfold kindF at hk
 by_cases h1:o.kind=1
 ·exact .inl h1
 by_cases h2:o.kind=2
 ·exact .inr (.inl h2)
 by_cases h3:o.kind=3
 ·exact .inr (.inr (.inl h3))
 by_cases h4:o.kind=4
 ·exact .inr (.inr (.inr (.inl h4)))
 by_cases h5:o.kind=5
 ·exact .inr (.inr (.inr (.inr h5)))
 rw[if_neg h1,if_neg h2,if_neg h3,if_neg h4,if_neg (fun h=>h.elim h5 h6)] at hk
 cases hk
theorem find_there {t:Tr} {o:Opn} (h:faultO t o=0) (h1:o.kind≠1):∃ u,brFind t.brs o.unit=some u:=by
 cases hb:brFind t.brs o.unit with
 | some u=>exact⟨u,rfl⟩
 | none =>
  exfalso
  unfold faultO faultM faultR faultL at h
  rw[hb,if_neg h1] at h
  simp only [ite_self] at h
  cases h
end Go.Proofs.YtafncfomiolmgaaGreatDoor
namespace Go.Proofs.YtafncfomiolmgaaGreatDoor
open Go.RowKit
theorem deep_map {l:List Br} (g:Br→Br) (hg:∀ b,(g b).id=b.id∧(g b).parent=b.parent):∀(n:Nat) (b:Br),deep (l.map g) n (g b)=deep l n b
 | 0,b=>by
  unfold deep
  rw[(hg b).2]
 | n+1,b=>by
  unfold deep
  rw[(hg b).2,find_map g (fun b=>(hg b).1)]
  cases brFind l b.parent with
  | none=>rfl
  | some p =>
   show(if b.parent=0 then some 1 else(deep (l.map g) n (g p)).map (· + 1))=_
   rw[deep_map g hg n p]
theorem label_right {t:Tr} (h:RightT t) (n:Int) (f:Br→Br) (hf:∀ b,(f b).id=b.id∧(f b).parent=b.parent) (hs:SoundM (setU t n f)):RightT (setU t n f):=by
 refine(right_iff _).2 ⟨hs,fun b hb=>?_⟩
 have hd:=((right_iff t).1 h).2
 unfold setU at hb ⊢
 obtain⟨c,hc,rfl⟩:=List.mem_map.1 hb
 obtain⟨d,hd1,hd2⟩:=hd c hc
 refine⟨d,?_,hd2⟩
 have hg:∀ b:Br,(if b.id=n then f b else b).id=b.id∧(if b.id=n then f b else b).parent=b.parent:=fun b=>by
  split
  ·exact hf b
  ·exact⟨rfl,rfl⟩
 have:=deep_map (l:=t.brs) (fun b=>if b.id=n then f b else b) hg t.brs.length c
 show deep (t.brs.map fun b=>if b.id=n then f b else b) (t.brs.map fun b=>if b.id=n then f b else b).length (if c.id=n then f c else c)=some d
 rw[List.length_map,this,hd1]
theorem deep_without {l:List Br} {u:Int} (hno:∀ b∈l,b.parent≠u):∀(n:Nat) (b:Br),b∈l→deep (l.filter fun c=>!(c.id == u)) n b=deep l n b
 | 0,b,_=>rfl
 | n+1,b,hb=>by
  unfold deep
  rw[find_without (hno b hb)]
  cases hp:brFind l b.parent with
  | none=>rfl
  | some p =>
   show(if b.parent=0 then some 1 else(deep (l.filter fun c=>!(c.id == u)) n p).map (· + 1))=_
   rw[deep_without hno n p (find_in hp).1]
theorem remove_right {t:Tr} {o:Opn} {u:Br} (h:RightT t) (hu:u∈t.brs) (hid:u.id=o.unit) (hk:u.kids=[]):RightT (removeT t o u):=by
 have hS:=right_sound h
 have hR:=remove_sound (o:=o) hS hu hid hk
 refine(right_iff _).2 ⟨hR,fun b hb=>?_⟩
 have hd:=((right_iff t).1 h).2
 have hno:∀ b∈t.brs,b.parent≠o.unit:=fun b hb e=>by
  have hm:=(childs_mem hS (n:=u.id) (x:=b.id) (.inr ⟨u,hu,rfl⟩)).2 ⟨b,hb,by rw[e,hid],rfl⟩
  rw[childs_of hS.asc hu (unit_pos (hS.units u hu)),hk] at hm
  cases hm
 -- the list with other children
 obtain⟨g,hg,hl⟩:∃ g:Br→Br,(∀ b,(g b).id=b.id∧(g b).parent=b.parent)∧(removeT t o u).brs=(t.brs.map g).filter fun c=>!(c.id == o.unit):=by
  unfold removeT setK
  by_cases h0:u.parent=0
  ·rw[if_pos h0]
   exact⟨id,fun _=>⟨rfl,rfl⟩,by simp⟩
  ·rw[if_neg h0]
   exact⟨_,fun b=>by split<;>exact⟨rfl,rfl⟩,rfl⟩
 have hb2:=hb
 rw[hl] at hb2
 obtain⟨hb3,-⟩:=List.mem_filter.1 hb2
 obtain⟨c,hc,rfl⟩:=List.mem_map.1 hb3
 obtain⟨d,hd1,hd2⟩:=hd c hc
 refine⟨d,?_,hd2⟩
 have hno2:∀ b∈t.brs.map g,b.parent≠o.unit:=fun b hb=>by
  obtain⟨c,hc,rfl⟩:=List.mem_map.1 hb
  rw[(hg c).2]
  exact hno c hc
 have h1:deep (removeT t o u).brs t.brs.length (g c)=some d:=by
  rw[hl,deep_without hno2 _ _ hb3,deep_map g hg,hd1]
 have h2:=deep_le hR.asc hb h1
 exact(deep_mono _ _ _ h1).2 _ b_37
theorem used_first {t:Tr} (h:SoundM t) (m:ByteArray) (but:Int):usedB t m but=match (if m.toList.isEmpty then none else t.brs.find? fun b=>b.mark.toList == m.toList) with
  | none=>false
  | some b=>!(b.id == but):=by
 unfold usedB
 cases hm:m.toList.isEmpty with
 | true=>rfl
 | false =>
  simp only [Bool.not_false,Bool.true_and,Bool.false_eq_true,if_false]
  cases hf:t.brs.find? fun b=>b.mark.toList == m.toList with
  | none =>
   rw[List.any_eq_false]
   intro b hb
   have:=List.find?_eq_none.1 hf b hb
   simp only [Bool.not_eq_true] at this
   simp[this]
  | some c =>
   have hc:=List.mem_of_find?_eq_some hf
   have he:c.mark.toList=m.toList:=by simpa using List.find?_some hf
   rw[Bool.eq_iff_iff,List.any_eq_true]
   constructor
   ·rintro ⟨b,hb,hx⟩
    rw[Bool.and_eq_true] at hx
    have hbm:b.mark.toList=m.toList:=by simpa using hx.1
    have:=h.marks b hb c hc (by rw[hbm];exact hm) (by rw[hbm,he])
    show(!(c.id == but))=true
    rw[← this]
    exact hx.2
   ·intro hx
    exact⟨c,hc,by rw[Bool.and_eq_true];exact⟨by simpa using he,hx⟩⟩
end Go.Proofs.YtafncfomiolmgaaGreatDoor
namespace Go.Proofs.YtafncfomiolmgaaGreatDoor
open Go.RowKit
def Opn.cells (o:Opn):List Value:=[.int .i64 o.id,.int .i64 o.day,.int .i64 o.kind,.int .i64 o.unit,.int .i64 o.parent,.int .i64 o.before,.int .i64 o.level,.string o.title,.string o.mark,.int .i64 o.office,.int .i64 o.acc,.int .i64 o.num]
def Opn.agg (o:Opn):Value:=.agg #[.int .i64 o.id,.int .i64 o.day,.int .i64 o.kind,.int .i64 o.unit,.int .i64 o.parent,.int .i64 o.before,.int .i64 o.level,.string o.title,.string o.mark,.int .i64 o.office,.int .i64 o.acc,.int .i64 o.num]
structure TOk (t:Tr):Prop where
 sound:SoundM t
 few:FewBr t.brs
 roots:t.roots.length≤1000000
theorem TOk.asc {t:Tr} (h:TOk t):idsAsc t.brs:=h.sound.asc
theorem TOk.len {t:Tr} (h:TOk t):t.brs.length≤1000000:=h.few.1
theorem TOk.kids {t:Tr} (h:TOk t) (p:Int):(childs t p).length≤1000000:=by
 unfold childs
 by_cases h0:p=0
 ·rw[if_pos h0];exact h.roots
 ·rw[if_neg h0]
  cases hb:brFind t.brs p with
  | none=>simp
  | some b =>
   obtain⟨k,hk,e⟩:=List.mem_iff_getElem.1 (find_in hb).1
   have:=h.few.2 k hk
   rw[e] at this
   exact this
def MEnd (w0:World) (E:Nat) (t':Tr) (n:Int) (e:Ending) (w':World):Prop:=e=.returned (.int .i64 n)∧Grew w0 w'∧(n=0→∃ bv',EdB w0.heap.size E bv' t' w')
section
variable {w0:World} {E:Nat} {bv:Value} {t:Tr} {w:World}
theorem EdB.at_ {base:Nat} (h:EdB base E bv t w) {i:Nat} (hi:i<t.brs.length):∃ B cap,bv=.slice (some ⟨B,0,none⟩) t.brs.length cap:=by
 obtain⟨rv,cs,hE⟩:=h
 obtain⟨B,cap,hbv,-,-,-⟩:=own_form hE.brs b_37
 exact⟨B,cap,hbv⟩
theorem find_at {l:List Br} {n:Int} {b:Br} (h:brFind l n=some b):∃ i,∃ hi:i<l.length,l[i]=b∧l[i].id=n:=by
 obtain⟨k,hk,_,e⟩:=brIdx_some h
 exact⟨k,hk,e,by rw[e];exact(find_in h).2⟩
set_option maxHeartbeats 2000000 in
theorem edStands {base:Nat} (h:EdB base E bv t w) (hT:TOk t) (p lv:Int) (hp:p=0∨∃ b,brFind t.brs p=some b) :
  Calls Tryz.prog 87 #[.pointer (some ⟨E,0,none⟩),.int .i64 p,.int .i64 lv] w fun e w'=>e=.returned (.int .i64 (if standsB t p lv then 0 else 18))∧Grew w w':=by
 by_cases hz:p=0
 ·subst hz
  have hs:standsB t 0 lv=(lv == 1):=by
   unfold standsB
   rw[if_pos rfl]
  rw[hs]
  cases hl:(lv == 1)
  all_goals
   go_enter Tryz.func87,Tryz.ntmps87
   exact c_71
 ·obtain⟨b,hb⟩:=hp.resolve_left hz
  obtain⟨i,hi,eb,ei⟩:=find_at hb
  obtain⟨B,cap,hbv⟩:=h.at_ hi
  have hs:standsB t p lv=((lv != 1) && fitsF t.brs[i].level lv):=by
   unfold standsB
   rw[if_neg hz,hb,← eb]
   show fitsF t.brs[i].level lv=_
   cases hf:fitsF t.brs[i].level lv with
   | false=>rw[Bool.and_false]
   | true=>simp[fits_one hf]
  rw[hs]
  have kB:=edBranch h hT.asc hT.len hi hbv
  rw[ei] at kB
  have hz':(p != 0)=true:=by simpa using hz
  obtain⟨rv,cs,hE⟩:=h
  obtain⟨-,-,c2,-⟩:=hE.at_ hi hbv
  have KB:=uZ kB
  have KF:=uZ (tFits t.brs[i].level lv)
  generalize fitsF t.brs[i].level lv=q at KF ⊢
  generalize t.brs[i].level=bl at c2 KF
  have C2:=uZ c2
  clear hE hb eb ei hs kB hbv hp hz c2 hT
  cases hl:(lv != 1)
  ·go_enter Tryz.func87,Tryz.ntmps87
   exact c_71
  ·cases q
   all_goals
    go_enter Tryz.func87,Tryz.ntmps87
    go_wp2_with fail
    refine KB.out.mono ?_
    rintro e w1 ⟨rfl,g1⟩
    have c2:=uQ g1 C2.out
    dsimp only
    go_wp2_with fail
    refine(KF.out _).mono ?_
    rintro e w2 ⟨rfl,rfl⟩
    dsimp only
    go_wp2
    go_ret
    exact⟨rfl,g1⟩
theorem edUsed {base:Nat} (h:EdB base E bv t w) (hT:TOk t) (m:ByteArray) (but:Int) :
  Calls Tryz.prog 90 #[.pointer (some ⟨E,0,none⟩),.string m,.int .i64 but] w fun e w'=>e=.returned (.bool (usedB t m but))∧Grew w w':=by
 rw[used_first hT.sound]
 obtain⟨rv,-,hb,c0,c1,-,-⟩:=h.reads
 have k:=tMarked t.brs m rv bv w hb
 unfold markedF at k
 generalize (if m.toList.isEmpty then none else t.brs.find? fun b=>b.mark.toList == m.toList)=O at k ⊢
 unfold markV at k
 have K:=uZ k
 clear k h hb hT
 cases O with
 | none =>
  go_enter Tryz.func90,Tryz.ntmps90
  go_wp2_with fail
  refine K.out.mono ?_
  rintro e w1 ⟨rfl,g1⟩
  dsimp only [Option.isSome_none]
  go_wp2
  go_ret
  exact⟨rfl,g1⟩
 | some b =>
  have hbe:(!(b.id == but))=(b.id != but):=rfl
  simp only [hbe]
  go_enter Tryz.func90,Tryz.ntmps90
  go_wp2_with fail
  refine K.out.mono ?_
  rintro e w1 ⟨rfl,g1⟩
  dsimp only [Option.isSome_some]
  go_wp2
  go_ret
  exact⟨rfl,g1⟩
open Classical in
theorem edLimit {base:Nat} (h:EdB base E bv t w) (hT:TOk t) (hE:Env w) :
  Calls Tryz.prog 93 #[.pointer (some ⟨E,0,none⟩)] w fun e w'=>e=.returned (.int .i64 (if RightT t then 0 else 15))∧Grew w w':=by
 obtain⟨rv,hr,hb,c0,c1,-,-⟩:=h.reads
 obtain⟨rs,l⟩:=t
 have k:=tCheckX rs l rv bv w hE hr hb hT.few hT.roots
 have hS:=(sound_iff _).2 hT.sound
 obtain⟨q,hq⟩:∃ q:Int,(if RightT ⟨rs,l⟩ then(0:Int) else 15)=q:=⟨_,rfl⟩
 have HQ:RowKit.Hid (∀ n:Int,(n=0↔RightT ⟨rs,l⟩)→(n=0∨n=15)→n=q):=fun n h1 h2=>by
  rw[← hq]
  by_cases hT:RightT ⟨rs,l⟩
  ·rw[if_pos hT]
   exact h1.2 hT
  ·rw[if_neg hT]
   exact h2.resolve_left fun h=>hT (h1.1 h)
 rw[hq]
 have K:=uZ k
 have HS:=uZ hS
 clear k h hb hr hT hE hq hS
 go_enter Tryz.func93,Tryz.ntmps93
 go_wp2_with fail
 refine K.out.mono ?_
 rintro e w1 ⟨i,n,rfl,hn,-,hs,g1⟩
 have h1:=HQ.out n hn (hs HS.out)
 subst h1
 have h2:=hs HS.out
 clear HQ hn hs
 dsimp only
 rcases h2 with rfl|rfl
 ·go_wp2
  go_ret
  exact⟨rfl,g1⟩
 ·go_wp2
  go_ret
  exact⟨rfl,g1⟩
end
end Go.Proofs.YtafncfomiolmgaaGreatDoor
namespace Go.Proofs.YtafncfomiolmgaaGreatDoor
open Go.RowKit
set_option maxRecDepth 100000 in
theorem c_61 {p:Prop} (h:p:=by
 go_wp2_with fail
 refine(KB.out _ ((uX w).alloc _)).mono ?_
 rintro e w1 ⟨rfl,g1⟩
 dsimp only
 go_wp2
 go_ret
 exact⟨rfl,HG.out.trans (((uX w).alloc _).trans g1),fun h=>by cases h⟩):p:=h
theorem opn_cells {w W:World} {t:TypeId} (o:Opn) (h:Grew (w.alloc (.cells o.cells.toArray t)) W) :
  W.cell? ⟨w.heap.size,3,none⟩=some (.int .i64 o.unit)∧W.cell? ⟨w.heap.size,4,none⟩=some (.int .i64 o.parent)∧W.cell? ⟨w.heap.size,5,none⟩=some (.int .i64 o.before)∧W.cell? ⟨w.heap.size,6,none⟩=some (.int .i64 o.level)∧W.cell? ⟨w.heap.size,7,none⟩=some (.string o.title)∧W.cell? ⟨w.heap.size,8,none⟩=some (.string o.mark) :=
 ⟨yQ h 3 _ rfl,yQ h 4 _ rfl,yQ h 5 _ rfl,yQ h 6 _ rfl,yQ h 7 _ rfl,yQ h 8 _ rfl⟩
section
variable {w0:World} {E:Nat} {bv:Value} {t:Tr} {w:World}
theorem fieldDone {w1:World} {i j:Nat} {B cap:Nat} (h:EdB w0.heap.size E bv t w1) (hG:Grew w0 w1) (hT:TOk t) (hi:i<t.brs.length) (hj:j<5) (hbv:bv=.slice (some ⟨B,0,none⟩) t.brs.length cap) (f:Br→Br) (u:Value) (hf:∀ kv,((f t.brs[i]).c kv).cells=(t.brs[i].c kv).cells.set j u) (hk:(f t.brs[i]).kids=t.brs[i].kids) {n:Int} (hn:t.brs[i].id=n) :
  MEnd w0 E (setU t n f) 0 (.returned (.int .i64 0)) (w1.setCell ⟨B,i*6+j,none⟩ u)∧w1.frozen? ⟨B,i*6+j,none⟩=false∧∃ v,w1.cell? ⟨B,i*6+j,none⟩=some v:=by
 obtain⟨rv,cs,hE⟩:=h
 obtain⟨c0,c1,c2,c3,c4,-,hz,hlo,hlt⟩:=hE.at_ hi hbv
 subst hn
 refine⟨⟨rfl,hG.setCell (p:=⟨B,i*6+j,none⟩) hlo u,fun _=>⟨bv,hE.field hT.asc hi hj hbv f u hf hk⟩⟩,hz _,?_⟩
 have:j=0∨j=1∨j=2∨j=3∨j=4:=by omega
 rcases this with rfl|rfl|rfl|rfl|rfl
 ·exact⟨_,c0⟩
 ·exact⟨_,c1⟩
 ·exact⟨_,c2⟩
 ·exact⟨_,c3⟩
 ·exact⟨_,c4⟩
set_option maxHeartbeats 2000000 in
theorem edRename (h:EdB w0.heap.size E bv t w) (hG:Grew w0 w) (hT:TOk t) (o:Opn) :
  Calls Tryz.prog 49 #[.pointer (some ⟨E,0,none⟩),o.agg] w (MEnd w0 E (setU t o.unit fun b=>{ b with title:=o.title }) (if (brFind t.brs o.unit).isSome then 0 else 7)):=by
 have hC:=fun W (hW:Grew (w.alloc (.cells o.cells.toArray 25)) W)=>opn_cells o hW
 have HC:=uZ hC
 have HG:=uZ hG
 cases hb:brFind t.brs o.unit with
 | none =>
  have KB:=uZ (fun W (hW:Grew w W)=>edBranchNo (h.grew hW) hT.asc hT.len hb)
  dsimp only [Option.isSome_none]
  obtain⟨oi,od,ok,ou,op,ob,ol,ot,om,oo,oa,on⟩:=o
  unfold Opn.agg
  clear h hG hT hb hC
  dsimp only [Opn.cells] at KB HC ⊢
  go_enter Tryz.func49,Tryz.ntmps49
  exact c_61
 | some b =>
  obtain⟨i,hi,-,ei⟩:=find_at hb
  obtain⟨B,cap,hbv⟩:=h.at_ hi
  have KB:=uZ (fun W (hW:Grew w W)=>edBranch (h.grew hW) hT.asc hT.len hi hbv)
  have HD:=uZ (fun W (hW:Grew w W)=>fieldDone (h.grew hW) (hG.trans hW) hT hi (j:=3) b_37 hbv (fun b=>{ b with title:=o.title }) (.string o.title) (fun _=>rfl) rfl ei)
  rw[ei] at KB
  dsimp only [Option.isSome_some]
  generalize (setU t o.unit fun b=>{ b with title:=o.title })=R at HD ⊢
  obtain⟨oi,od,ok,ou,op,ob,ol,ot,om,oo,oa,on⟩:=o
  unfold Opn.agg
  clear h hG hT hb hC hbv ei
  dsimp only [Opn.cells] at KB HC HD ⊢
  go_enter Tryz.func49,Tryz.ntmps49
  go_wp2_with fail
  refine(KB.out _ ((uX w).alloc _)).mono ?_
  rintro e w1 ⟨rfl,g1⟩
  obtain⟨-,-,-,-,o7,-⟩:=HC.out w1 g1
  obtain⟨hd,hz,vz,hcz⟩:=HD.out w1 (((uX w).alloc _).trans g1)
  have HDD:=uZ hd
  clear hd g1
  dsimp only
  go_wp2
  go_ret
  exact HDD.out
set_option maxHeartbeats 2000000 in
theorem edMark (h:EdB w0.heap.size E bv t w) (hG:Grew w0 w) (hT:TOk t) (o:Opn) :
  Calls Tryz.prog 50 #[.pointer (some ⟨E,0,none⟩),o.agg] w (MEnd w0 E (setU t o.unit fun b=>{ b with mark:=o.mark }) (if (brFind t.brs o.unit).isSome then(if usedB t o.mark o.unit then 19 else 0) else 7)):=by
 have hC:=fun W (hW:Grew (w.alloc (.cells o.cells.toArray 25)) W)=>opn_cells o hW
 have HC:=uZ hC
 have HG:=uZ hG
 cases hb:brFind t.brs o.unit with
 | none =>
  have KB:=uZ (fun W (hW:Grew w W)=>edBranchNo (h.grew hW) hT.asc hT.len hb)
  dsimp only [Option.isSome_none]
  obtain⟨oi,od,ok,ou,op,ob,ol,ot,om,oo,oa,on⟩:=o
  unfold Opn.agg
  clear h hG hT hb hC
  dsimp only [Opn.cells] at KB HC ⊢
  go_enter Tryz.func50,Tryz.ntmps50
  exact c_61
 | some b =>
  obtain⟨i,hi,-,ei⟩:=find_at hb
  obtain⟨B,cap,hbv⟩:=h.at_ hi
  have KB:=uZ (fun W (hW:Grew w W)=>edBranch (h.grew hW) hT.asc hT.len hi hbv)
  have KU:=uZ (fun W (hW:Grew w W)=>edUsed (h.grew hW) hT o.mark o.unit)
  have HD:=uZ (fun W (hW:Grew w W)=>fieldDone (h.grew hW) (hG.trans hW) hT hi (j:=4) b_37 hbv (fun b=>{ b with mark:=o.mark }) (.string o.mark) (fun _=>rfl) rfl ei)
  rw[ei] at KB
  dsimp only [Option.isSome_some]
  generalize (setU t o.unit fun b=>{ b with mark:=o.mark })=R at HD ⊢
  generalize usedB t o.mark o.unit=q at KU ⊢
  obtain⟨oi,od,ok,ou,op,ob,ol,ot,om,oo,oa,on⟩:=o
  unfold Opn.agg
  clear h hG hT hb hC hbv ei
  dsimp only [Opn.cells] at KB KU HC HD ⊢
  cases q
  ·go_enter Tryz.func50,Tryz.ntmps50
   go_wp2_with fail
   refine(KB.out _ ((uX w).alloc _)).mono ?_
   rintro e w1 ⟨rfl,g1⟩
   obtain⟨o3,-,-,-,-,o8⟩:=HC.out w1 g1
   have HG1:=uZ g1
   clear g1
   dsimp only
   go_wp2_with fail
   refine(KU.out _ (((uX w).alloc _).trans HG1.out)).mono ?_
   rintro e w2 ⟨rfl,g2⟩
   have p8:=uQ g2 o8
   obtain⟨hd,hz,vz,hcz⟩:=HD.out w2 ((((uX w).alloc _).trans HG1.out).trans g2)
   have HDD:=uZ hd
   clear hd g2 o3 o8
   dsimp only
   go_wp2
   go_ret
   exact HDD.out
  ·go_enter Tryz.func50,Tryz.ntmps50
   go_wp2_with fail
   refine(KB.out _ ((uX w).alloc _)).mono ?_
   rintro e w1 ⟨rfl,g1⟩
   obtain⟨o3,-,-,-,-,o8⟩:=HC.out w1 g1
   have HG1:=uZ g1
   clear g1
   dsimp only
   go_wp2_with fail
   refine(KU.out _ (((uX w).alloc _).trans HG1.out)).mono ?_
   rintro e w2 ⟨rfl,g2⟩
   have HG2:=uZ (HG.out.trans ((((uX w).alloc _).trans HG1.out).trans g2))
   clear g2 o3 o8
   dsimp only
   go_wp2
   go_ret
   exact⟨rfl,HG2.out,fun h=>by cases h⟩
end
end Go.Proofs.YtafncfomiolmgaaGreatDoor
namespace Go.Proofs.YtafncfomiolmgaaGreatDoor
open Go.RowKit
theorem own_stretch {w:World} {base:Nat} {e:TypeId} {k g m n cap:Nat} {xs:List Value} (h:w.ownsRow base e k (.slice (some ⟨g,0,none⟩) m cap) m xs) (hmn:m≤n) (hn:n≤cap):∃ ds,w.ownsRow base e k (.slice (some ⟨g,0,none⟩) n cap) n ds∧ds.take (m*k)=xs:=by
 obtain⟨hl,h2⟩:=h
 rcases h2 with ⟨h3,_⟩|⟨g',cap',cur,hv,hb,hh,hnc,hcm,hcs,htk⟩
 ·cases h3
 ·injection hv with hA _ hc
  injection hA with hA
  injection hA with hA _ _
  subst hA hc
  have hmk:m*k≤n*k:=Nat.mul_le_mul_right k hmn
  have hnk:n*k≤cap*k:=Nat.mul_le_mul_right k hn
  refine⟨cur.toList.take (n*k),⟨?_,.inr ⟨g,cap,cur,rfl,hb,hh,hn,hcm,hcs,rfl⟩⟩,?_⟩
  ·rw[List.length_take,Array.length_toList,hcs]
   omega
  ·rw[List.take_take,Nat.min_eq_left hmk]
   exact htk
theorem delDone {w0 w2:World} {base g cap N k:Nat} {e:TypeId} {xs ds ds2:List Value} (hds:ds.take (N*k)=xs) (h3:w2.ownsRow base e k (.slice (some ⟨g,0,none⟩) (N+1) cap) (N+1) ds2) (hd:∀ t,t<N*k→ds2[t]? = ds[t]?) (hg:w0.grownBy w2 (some g)) :
  w2.ownsRow base e k (.slice (some ⟨g,0,none⟩) N cap) N xs∧w0.grownBy w2 (some g):=by
 have h4:=own_cut h3 N (Nat.le_succ _)
 have:ds2.take (N*k)=xs:=by
  rw[← hds]
  apply List.ext_getElem?
  intro t
  rw[List.getElem?_take,List.getElem?_take]
  split
  ·next ht=>exact hd t ht
  ·rfl
 rw[this] at h4
 exact⟨h4,hg⟩
set_option maxHeartbeats 4000000 in
set_option maxRecDepth 100000 in
theorem deleteB (base:Nat) (cs:List BrC) (i:Nat) (hi:i<cs.length) (v:Value) (w:World) (hown:w.ownsRow base 53 6 v cs.length (cs.flatMap BrC.cells)) (hone:∀ c∈cs,c.kv.oneCell'=true) (hl:cs.length≤1000000) :
  Calls Tryz.prog 95 #[v,.int .i64 i,.int .i64 ((i:Int)+1)] w fun e w'=>∃ v',e=.returned v'∧w'.ownsRow base 53 6 v' (cs.eraseIdx i).length ((cs.eraseIdx i).flatMap BrC.cells)∧w.grownBy w' v.ownBlock∧v'.ownBlock=v.ownBlock:=by
 obtain⟨g,cap,rfl,hbg,hglt,hcap⟩:=own_form hown b_37
 have hcm:cap≤maxLen:=own_max hown
 unfold maxLen at hcm
 obtain⟨i0,hi0,hz0,hz1,hz2⟩:=info_parts cinfoB
 obtain⟨N,hN⟩:∃ N,cs.length=N+1:=⟨cs.length-1,by omega⟩
 have hfl:=flatMap_len BrC.cells 6 (fun _=>rfl) cs
 obtain⟨ht,hd⟩:=flat_take (f:=BrC.cells) (k:=6) (fun _=>rfl) cs i
 obtain⟨-,hd1⟩:=flat_take (f:=BrC.cells) (k:=6) (fun _=>rfl) cs (i+1)
 have hcut:=own_cut hown i b_37
 have hE:(cs.eraseIdx i).flatMap BrC.cells=(cs.flatMap BrC.cells).take (i*6)++(cs.flatMap BrC.cells).drop ((i+1)*6):=by
  rw[List.eraseIdx_eq_take_drop_succ,List.flatMap_append,ht,hd1]
 have hEl:(cs.eraseIdx i).length=N:=by rw[List.length_eraseIdx_of_lt hi,hN];omega
 have hnl:((cs.flatMap BrC.cells).drop ((i+1)*6)).length=(N-i)*6:=by rw[List.length_drop,hfl,hN,← Nat.sub_mul];congr 1;omega
 -- the append
 have happ:∀ a:Addr,(0<N-i→a=⟨g,(i+1)*6,none⟩)→∃ w',(∀ ty,(Builtin.append_ #[33,33] ty #[.slice (some ⟨g,0,none⟩) i cap,.slice (some a) (N-i) (cap-(i+1))]).run Tryz.prog w.drew=.ok (.slice (some ⟨g,0,none⟩) N cap) w')∧w'.ownsRow base 53 6 (.slice (some ⟨g,0,none⟩) N cap) N ((cs.eraseIdx i).flatMap BrC.cells)∧w.grownBy w' (some g):=by
  intro a ha
  obtain⟨w',h1,h2,h3⟩:=run_append_fits (P:=Tryz.prog) w.drew base 33 0 53 i0 6 Tryz.underlying33 hi0 hz1 g i cap _ hcut a (N-i) (cap-(i+1)) ((cs.flatMap BrC.cells).drop ((i+1)*6)) hnl (fun j u hj=>by
   have hpos:0<N-i:=by
    have:=(List.getElem?_eq_some_iff.1 hj).1
    omega
   rw[ha hpos,add_lit]
   have hc:=hown.cellAt ((i+1)*6+j) (by have:=(List.getElem?_eq_some_iff.1 hj).1;omega)
   show w.cell? _=_
   rw[hc,← List.getElem?_drop]
   exact hj) (fun u hu=>one_cellsB cs hone u (List.mem_of_mem_drop hu)) b_37
  rw[show i+(N-i)=N by omega] at h1 h2
  refine⟨w',fun ty=>h1,?_,⟨h3.os,h3.tape,h3.output,h3.size,h3.block⟩⟩
  rw[hE]
  exact h2
 rw[hEl]
 generalize (cs.eraseIdx i).flatMap BrC.cells=XS at happ ⊢
 rw[hN] at hcap hi hown ⊢
 clear hfl ht hd hd1 hE hEl hnl hown hcut hone hl hN
 have hiz:(i:Int)≤((N+1:Nat):Int):=by omega
 have hi1:((i:Int)+1)≤((N+1:Nat):Int):=by omega
 have h0z:(0:Int)≤(i:Int):=by omega
 have h1z:(0:Int)≤(i:Int)+1:=by omega
 have hiz2:(i:Int)≤(i:Int)+1:=by omega
 have hne:((i:Int) == (i:Int)+1)=false:=beq_eq_false_iff_ne.2 b_37
 have htn:((i:Int)+1).toNat=i+1:=by omega
 have hi2:i≤N+1:=by omega
 have hi3:i+1≤N+1:=by omega
 have hi4:i≤N:=by omega
 have hi5:i≤cap:=by omega
 have hsub:N+1-(i+1)=N-i:=by omega
 by_cases hcc:cap=i+1
 ·obtain⟨w1,hrun,ho1,hg1⟩:=happ ⟨g,0,none⟩ b_37
  obtain rfl:N=i:=by omega
  subst hcc
  simp only [Nat.sub_self] at hrun
  clear happ
  go_enter Tryz.func95,Tryz.ntmps95
  go_wp2_with fail
  refine region_still_tail 6 (by kernel_rfl) (by kernel_rfl) ?_
  simp only [List.take_succ_cons,List.take_zero,List.drop_succ_cons,List.drop_zero]
  iterate 6 still_step
  refine wpStill_nil ?_
  refine Lib.wpList_append_run _ rfl _ _ _ _ rfl _ _ rfl rfl _ _ (hrun _) ?_
  obtain⟨ds,ho2,hds⟩:=own_stretch ho1 (Nat.le_succ _) (Nat.le_refl _)
  obtain⟨w2,ds2,hclr,ho3,hg3,hd3⟩:=run_clear_own (P:=Tryz.prog) w1 33 53 0 (.agg #[.int .i64 0,.int .i64 0,.int .i64 0,.string ⟨#[]⟩,.string ⟨#[]⟩,.slice none 0 0]) 6 Tryz.underlying33 Tryz.zeroValue53 rfl b_37 (by simp[Value.cells,Value.oneCell']) ho2 N ((N+1)-N) (Nat.lt_succ_self _)
  have hclr':∀ ty,(Builtin.clear_ #[33] ty #[.slice (some ⟨g,N*6,none⟩) 1 1]).run Tryz.prog w1=.ok (.tuple #[]) w2:=fun _=>by
   have h:=hclr
   rw[show N+1-N=1 by omega] at h
   exact h
  have HFIN:=uZ (delDone hds ho3 (fun t ht=>hd3 t ht) (hg1.trans hg3))
  have hnz:(0:Int)≤(N:Int):=by omega
  have hnz1:(N:Int)≤((N+1:Nat):Int):=by omega
  have hnn:¬ (N+1)=N:=by omega
  have hsb:N+1-N=1:=by omega
  clear ho1 hg1 hrun ho2 hds hclr ho3 hg3 hd3
  go_wp2
  go_ret
  exact⟨_,rfl,HFIN.out.1,HFIN.out.2,rfl⟩
 ·obtain⟨w1,hrun,ho1,hg1⟩:=happ ⟨g,(i+1)*6,none⟩ (fun _=>rfl)
  clear happ
  go_enter Tryz.func95,Tryz.ntmps95
  go_wp2_with fail
  refine region_still_tail 6 (by kernel_rfl) (by kernel_rfl) ?_
  simp only [List.take_succ_cons,List.take_zero,List.drop_succ_cons,List.drop_zero]
  iterate 6 still_step
  refine wpStill_nil ?_
  refine Lib.wpList_append_run _ rfl _ _ _ _ rfl _ _ rfl rfl _ _ (hrun _) ?_
  obtain⟨ds,ho2,hds⟩:=own_stretch ho1 (Nat.le_succ _) hcap
  obtain⟨w2,ds2,hclr,ho3,hg3,hd3⟩:=run_clear_own (P:=Tryz.prog) w1 33 53 0 (.agg #[.int .i64 0,.int .i64 0,.int .i64 0,.string ⟨#[]⟩,.string ⟨#[]⟩,.slice none 0 0]) 6 Tryz.underlying33 Tryz.zeroValue53 rfl b_37 (by simp[Value.cells,Value.oneCell']) ho2 N (cap-N) (Nat.lt_succ_self _)
  have hclr':∀ ty,(Builtin.clear_ #[33] ty #[.slice (some ⟨g,N*6,none⟩) 1 (cap-N)]).run Tryz.prog w1=.ok (.tuple #[]) w2:=fun _=>by
   have h:=hclr
   rw[show N+1-N=1 by omega] at h
   exact h
  have HFIN:=uZ (delDone hds ho3 (fun t ht=>hd3 t ht) (hg1.trans hg3))
  have hnz:(0:Int)≤(N:Int):=by omega
  have hnz1:(N:Int)≤((N+1:Nat):Int):=by omega
  have hnn:¬ cap=N:=by omega
  have hsb:N+1-N=1:=by omega
  clear ho1 hg1 hrun ho2 hds hclr ho3 hg3 hd3
  go_wp2
  go_ret
  exact⟨_,rfl,HFIN.out.1,HFIN.out.2,rfl⟩
end Go.Proofs.YtafncfomiolmgaaGreatDoor