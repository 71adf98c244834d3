/- Lemmas on what the functions of the program and of the library compute: PlainTg, PlainBk, PlainBm, PlainCh, PlainCan, PlainOb, PlainOd, PlainRt, Es4. The conditions stand at each. -/
import Derived.Test.YtdochkemaiokfaaGreatQ8
/- A unit that is moved keeps what is below it, and stands where it was put. No condition. -/
namespace Go.Proofs.YtdochkemaiokfaaGreat
open Go.RowKit
theorem parent_there {t:Tr} (h:SoundM t) {u:Br} (hu:u∈t.brs):u.parent=0∨∃ b∈t.brs,b.id=u.parent:=by
 rcases (placed_mem h.asc u).1 (h.placed u hu) with ⟨h1,_⟩|⟨_,p,hpm,h2,_⟩
 ·exact .inl h1
 ·exact .inr ⟨p,hpm,h2⟩
theorem stands_there {l:List Br} {p lv:Int} (h:StandsT l p lv):p=0∨∃ b∈l,b.id=p:=by
 rcases h with ⟨h1,_⟩|⟨_,q,hq,h2,_⟩
 ·exact .inl h1
 ·exact .inr ⟨q,hq,h2⟩
theorem under_there {l:List Br} {n x:Int} (hn:∃ b∈l,b.id=n) (hu:UnderT l n x):∃ b∈l,b.id=x:=by
 cases hu with
 | self=>exact hn
 | step hb _ _=>exact⟨_,hb,rfl⟩
theorem under_rank {l:List Br} {r:Int→Nat} (hr:∀ b∈l,b.parent≠0→r b.parent<r b.id) {n x:Int} (hu:UnderT l n x):r n≤r x:=by
 induction hu with
 | self=>exact Nat.le_refl _
 | step hb hp _ ih=>have:=hr _ hb hp;omega
end Go.Proofs.YtdochkemaiokfaaGreat
/- Steps of the way back: a number that was put is taken out again, one that was taken out is put back; children set and set back. No condition. -/
namespace Go.Proofs.YtdochkemaiokfaaGreat
open Go.RowKit
theorem map_insB (g:Br→Br) (hg:∀ b,(g b).id=b.id) (b:Br):∀ l:List Br,(insB b l).map g=insB (g b) (l.map g)
 | []=>rfl
 | y::r=>by
  rw[List.map_cons,insB,insB,hg,hg]
  split
  ·rw[List.map_cons,map_insB g hg b r]
  ·rw[List.map_cons,List.map_cons]
end Go.Proofs.YtdochkemaiokfaaGreat
/- Trees with the same units and the same lists of children are the same; the way back of removing and of moving. No condition. -/
namespace Go.Proofs.YtdochkemaiokfaaGreat
open Go.RowKit
theorem asc_core {l m:List Br} (h:idsAsc l) (hc:l.map core=m.map core):idsAsc m:=by
 have h1:(l.map core).map Br.id=(m.map core).map Br.id:=by rw[hc]
 have h2:l.map Br.id=m.map Br.id:=by simpa [List.map_map,Function.comp_def,core] using h1
 have h3:(l.map Br.id).Pairwise (· < ·):=List.Pairwise.map _ (fun _ _ h=>h) h
 rw[h2,List.pairwise_map] at h3
 exact h3
theorem core_setK (t:Tr) (p:Int) (ks:List Int):(setK t p ks).brs.map core=t.brs.map core:=by
 rw[setK_brs]
 split
 ·rfl
 ·rw[List.map_map]
  congr 1
  funext b
  exact kidG_core p ks b
end Go.Proofs.YtdochkemaiokfaaGreat
/- What is changed between two trees, plainly; an operation changes its own unit alone. No condition. -/
namespace Go.Proofs.YtdochkemaiokfaaGreat
open Go.RowKit
theorem find_without {n u:Int} (hn:n≠u):∀ l:List Br,brFind (l.filter fun b=>!(b.id == u)) n=brFind l n
 | []=>rfl
 | y::r=>by
  have ih:=find_without hn r
  by_cases hy:y.id=u
  ·rw[List.filter_cons_of_neg (by simp[hy]),ih]
   unfold brFind
   rw[List.find?_cons_of_neg (by rw[hy];simpa using fun e=>hn e.symm)]
  ·rw[List.filter_cons_of_pos (by simpa using hy)]
   unfold brFind at ih ⊢
   rw[List.find?_cons,List.find?_cons,ih]
end Go.Proofs.YtdochkemaiokfaaGreat
/- No fault means that an operation may be done, and the other way round. No condition. -/
namespace Go.Proofs.YtdochkemaiokfaaGreat
open Go.RowKit
theorem can_create {t:Tr} {o:Opn} (h:SoundM t) (hf:formedO o=true) (h1:o.kind=1) (h0:faultO t o=0):CanCreate t o:=by
 obtain⟨hC,hK⟩:=(sound_parts t).1 h
 unfold formedO at hf
 simp only [Bool.and_eq_true] at hf
 obtain⟨-,-,hu,hk⟩:=hf
 unfold kindF at hk
 unfold faultO at h0
 rw[if_pos h1] at hk h0
 simp only [Bool.and_eq_true] at hk
 unfold faultC at h0
 split at h0
 ·simp at h0
 rename_i e1
 split at h0
 ·simp at h0
 split at h0
 ·simp at h0
 rename_i e3
 split at h0
 ·simp at h0
 rename_i e4
 split at h0
 ·simp at h0
 rename_i e5
 split at h0
 ·simp at h0
 rename_i e6
 refine⟨?_,⟨hu,hk.2.1,hk.2.2.1,markE_ok hk.2.2.2.1⟩,(stands_iff hC.asc _ _).1 (by simpa using e3),fun hb=>?_,fun c hc hne=>?_,by omega⟩
 ·have:brFind t.brs o.unit=none:=by simpa using e1
  exact(find_none _).1 this
 ·by_cases hm:o.before∈childs t o.parent
  ·exact hm
  ·exact absurd ⟨hb,hm⟩ e4
 ·exact(used_no (by simpa using e5) c hc (fun e=>unit_pos (hC.units c hc) e) hne).symm
theorem can_move {t:Tr} {o:Opn} {u:Br} (h:SoundM t) (h2:o.kind=2) (h0:faultO t o=0) (hb:brFind t.brs o.unit=some u):CanMove t o u:=by
 obtain⟨hC,hK⟩:=(sound_parts t).1 h
 have hin:=find_in hb
 unfold faultO at h0
 rw[if_neg (by rw[h2];decide),if_pos h2] at h0
 unfold faultM at h0
 rw[hb] at h0
 simp only at h0
 split at h0
 ·simp at h0
 split at h0
 ·simp at h0
 rename_i e2
 split at h0
 ·simp at h0
 rename_i e3
 split at h0
 ·simp at h0
 rename_i e4
 refine⟨hin.1,hin.2,(stands_iff hC.asc _ _).1 (by simpa using e3),fun hud=>?_,fun hbf=>?_⟩
 ·rw[← hin.2] at hud e2
  exact e2 ((mem_below h hin.1 _).2 hud)
 ·rw[mem_without]
  by_cases hm:o.before∈childs t o.parent
  ·exact⟨hm,fun e=>e4 ⟨hbf,.inl e⟩⟩
  ·exact absurd ⟨hbf,.inr hm⟩ e4
end Go.Proofs.YtdochkemaiokfaaGreat
/- The opposite of an operation leads back. No condition. -/
namespace Go.Proofs.YtdochkemaiokfaaGreat
open Go.RowKit
theorem own_stands {t:Tr} (h:SoundM t) {u:Br} (hu:u∈t.brs):StandsT t.brs u.parent u.level:=(placed_mem h.asc u).1 (h.placed u hu)
end Go.Proofs.YtdochkemaiokfaaGreat
/- The opposite of an operation leads back: all kinds together. No condition. -/
namespace Go.Proofs.YtdochkemaiokfaaGreat
open Go.RowKit
theorem newT_1 {t:Tr} {o:Opn} (h:o.kind=1):newT t o=createT t o:=by
 unfold newT
 rw[if_pos h]
theorem newT_2 {t:Tr} {o:Opn} {u:Br} (h:o.kind=2) (hb:brFind t.brs o.unit=some u):newT t o=moveT t o u:=by
 unfold newT
 rw[if_neg (by rw[h];decide),hb]
 simp only
 rw[if_pos h]
theorem newT_5 {t:Tr} {o:Opn} {u:Br} (h:o.kind=5) (hb:brFind t.brs o.unit=some u):newT t o=removeT t o u:=by
 unfold newT
 rw[if_neg (by rw[h];decide),hb]
 simp only
 rw[if_neg (by rw[h];decide),if_pos h]
theorem newT_3 {t:Tr} {o:Opn} {u:Br} (h:o.kind=3) (hb:brFind t.brs o.unit=some u):newT t o=setU t o.unit fun b=>{ b with title:=o.title }:=by
 unfold newT
 rw[if_neg (by rw[h];decide),hb]
 simp only
 rw[if_neg (by rw[h];decide),if_neg (by rw[h];decide),if_pos h]
theorem newT_4 {t:Tr} {o:Opn} {u:Br} (h:o.kind=4) (hb:brFind t.brs o.unit=some u):newT t o=setU t o.unit fun b=>{ b with mark:=o.mark }:=by
 unfold newT
 rw[if_neg (by rw[h];decide),hb]
 simp only
 rw[if_neg (by rw[h];decide),if_neg (by rw[h];decide),if_neg (by rw[h];decide)]
theorem faultO_1 {t:Tr} {o:Opn} (h:o.kind=1):faultO t o=faultC t o:=by
 unfold faultO
 rw[if_pos h]
theorem faultO_2 {t:Tr} {o:Opn} (h:o.kind=2):faultO t o=faultM t o:=by
 unfold faultO
 rw[if_neg (by rw[h];decide),if_pos h]
theorem faultO_5 {t:Tr} {o:Opn} (h:o.kind=5):faultO t o=faultR t o:=by
 unfold faultO
 rw[if_neg (by rw[h];decide),if_neg (by rw[h];decide),if_pos h]
theorem faultO_34 {t:Tr} {o:Opn} (h:o.kind=3∨o.kind=4):faultO t o=faultL t o:=by
 unfold faultO
 rw[if_neg (by omega),if_neg (by omega),if_neg (by omega)]
theorem find_there {t:Tr} {o:Opn} (h:faultO t o=0) (h1:o.kind≠1):∃ u,brFind t.brs o.unit=some u:=by
 cases hb:brFind t.brs o.unit with
 | some u=>exact⟨u,rfl⟩
 | none =>
  exfalso
  unfold faultO faultM faultR faultL at h
  rw[hb,if_neg h1] at h
  simp only [ite_self] at h
  cases h
end Go.Proofs.YtdochkemaiokfaaGreat
/- Naming and removing a unit keep a tree right. No condition. -/
namespace Go.Proofs.YtdochkemaiokfaaGreat
open Go.RowKit
theorem deep_map {l:List Br} (g:Br→Br) (hg:∀ b,(g b).id=b.id∧(g b).parent=b.parent):∀(n:Nat) (b:Br),deep (l.map g) n (g b)=deep l n b
 | 0,b=>by
  unfold deep
  rw[(hg b).2]
 | n+1,b=>by
  unfold deep
  rw[(hg b).2,find_map g (fun b=>(hg b).1)]
  cases brFind l b.parent with
  | none=>rfl
  | some p =>
   show(if b.parent=0 then some 1 else(deep (l.map g) n (g p)).map (· + 1))=_
   rw[deep_map g hg n p]
theorem label_right {t:Tr} (h:RightT t) (n:Int) (f:Br→Br) (hf:∀ b,(f b).id=b.id∧(f b).parent=b.parent) (hs:SoundM (setU t n f)):RightT (setU t n f):=by
 refine(right_iff _).2 ⟨hs,fun b hb=>?_⟩
 have hd:=((right_iff t).1 h).2
 unfold setU at hb ⊢
 obtain⟨c,hc,rfl⟩:=List.mem_map.1 hb
 obtain⟨d,hd1,hd2⟩:=hd c hc
 refine⟨d,?_,hd2⟩
 have hg:∀ b:Br,(if b.id=n then f b else b).id=b.id∧(if b.id=n then f b else b).parent=b.parent:=fun b=>by
  split
  ·exact hf b
  ·exact⟨rfl,rfl⟩
 have:=deep_map (l:=t.brs) (fun b=>if b.id=n then f b else b) hg t.brs.length c
 show deep (t.brs.map fun b=>if b.id=n then f b else b) (t.brs.map fun b=>if b.id=n then f b else b).length (if c.id=n then f c else c)=some d
 rw[List.length_map,this,hd1]
theorem deep_without {l:List Br} {u:Int} (hno:∀ b∈l,b.parent≠u):∀(n:Nat) (b:Br),b∈l→deep (l.filter fun c=>!(c.id == u)) n b=deep l n b
 | 0,b,_=>rfl
 | n+1,b,hb=>by
  unfold deep
  rw[find_without (hno b hb)]
  cases hp:brFind l b.parent with
  | none=>rfl
  | some p =>
   show(if b.parent=0 then some 1 else(deep (l.filter fun c=>!(c.id == u)) n p).map (· + 1))=_
   rw[deep_without hno n p (find_in hp).1]
theorem remove_right {t:Tr} {o:Opn} {u:Br} (h:RightT t) (hu:u∈t.brs) (hid:u.id=o.unit) (hk:u.kids=[]):RightT (removeT t o u):=by
 have hS:=right_sound h
 have hR:=remove_sound (o:=o) hS hu hid hk
 refine(right_iff _).2 ⟨hR,fun b hb=>?_⟩
 have hd:=((right_iff t).1 h).2
 have hno:∀ b∈t.brs,b.parent≠o.unit:=fun b hb e=>by
  have hm:=(childs_mem hS (n:=u.id) (x:=b.id) (.inr ⟨u,hu,rfl⟩)).2 ⟨b,hb,by rw[e,hid],rfl⟩
  rw[childs_of hS.asc hu (unit_pos (hS.units u hu)),hk] at hm
  cases hm
 -- the list with other children
 obtain⟨g,hg,hl⟩:∃ g:Br→Br,(∀ b,(g b).id=b.id∧(g b).parent=b.parent)∧(removeT t o u).brs=(t.brs.map g).filter fun c=>!(c.id == o.unit):=by
  unfold removeT setK
  by_cases h0:u.parent=0
  ·rw[if_pos h0]
   exact⟨id,fun _=>⟨rfl,rfl⟩,by simp⟩
  ·rw[if_neg h0]
   exact⟨_,fun b=>by split<;>exact⟨rfl,rfl⟩,rfl⟩
 have hb2:=hb
 rw[hl] at hb2
 obtain⟨hb3,-⟩:=List.mem_filter.1 hb2
 obtain⟨c,hc,rfl⟩:=List.mem_map.1 hb3
 obtain⟨d,hd1,hd2⟩:=hd c hc
 refine⟨d,?_,hd2⟩
 have hno2:∀ b∈t.brs.map g,b.parent≠o.unit:=fun b hb=>by
  obtain⟨c,hc,rfl⟩:=List.mem_map.1 hb
  rw[(hg c).2]
  exact hno c hc
 have h1:deep (removeT t o u).brs t.brs.length (g c)=some d:=by
  rw[hl,deep_without hno2 _ _ hb3,deep_map g hg,hd1]
 have h2:=deep_le hR.asc hb h1
 exact(deep_mono _ _ _ h1).2 _ (by omega)
theorem used_first {t:Tr} (h:SoundM t) (m:ByteArray) (but:Int):usedB t m but=match (if m.toList.isEmpty then none else t.brs.find? fun b=>b.mark.toList == m.toList) with
  | none=>false
  | some b=>!(b.id == but):=by
 unfold usedB
 cases hm:m.toList.isEmpty with
 | true=>rfl
 | false =>
  simp only [Bool.not_false,Bool.true_and,Bool.false_eq_true,if_false]
  cases hf:t.brs.find? fun b=>b.mark.toList == m.toList with
  | none =>
   rw[List.any_eq_false]
   intro b hb
   have:=List.find?_eq_none.1 hf b hb
   simp only [Bool.not_eq_true] at this
   simp[this]
  | some c =>
   have hc:=List.mem_of_find?_eq_some hf
   have he:c.mark.toList=m.toList:=by simpa using List.find?_some hf
   rw[Bool.eq_iff_iff,List.any_eq_true]
   constructor
   ·rintro ⟨b,hb,hx⟩
    rw[Bool.and_eq_true] at hx
    have hbm:b.mark.toList=m.toList:=by simpa using hx.1
    have:=h.marks b hb c hc (by rw[hbm];exact hm) (by rw[hbm,he])
    show(!(c.id == but))=true
    rw[← this]
    exact hx.2
   ·intro hx
    exact⟨c,hc,by rw[Bool.and_eq_true];exact⟨by simpa using he,hx⟩⟩
end Go.Proofs.YtdochkemaiokfaaGreat
/- The editor's stands, used, limit, rename and mark, walked. The conditions: the tree is right; the lists are short; the library's own variables hold what they must. -/
namespace Go.Proofs.YtdochkemaiokfaaGreat
open Go.RowKit
def Opn.cells (o:Opn):List Value:=[.int .i64 o.id,.int .i64 o.day,.int .i64 o.kind,.int .i64 o.unit,.int .i64 o.parent,.int .i64 o.before,.int .i64 o.level,.string o.title,.string o.mark,.int .i64 o.office,.int .i64 o.acc,.int .i64 o.num]
def Opn.agg (o:Opn):Value:=.agg #[.int .i64 o.id,.int .i64 o.day,.int .i64 o.kind,.int .i64 o.unit,.int .i64 o.parent,.int .i64 o.before,.int .i64 o.level,.string o.title,.string o.mark,.int .i64 o.office,.int .i64 o.acc,.int .i64 o.num]
structure TOk (t:Tr):Prop where
 sound:SoundM t
 few:FewBr t.brs
 roots:t.roots.length≤1000000
theorem TOk.asc {t:Tr} (h:TOk t):idsAsc t.brs:=h.sound.asc
theorem TOk.len {t:Tr} (h:TOk t):t.brs.length≤1000000:=h.few.1
theorem TOk.kids {t:Tr} (h:TOk t) (p:Int):(childs t p).length≤1000000:=by
 unfold childs
 by_cases h0:p=0
 ·rw[if_pos h0];exact h.roots
 ·rw[if_neg h0]
  cases hb:brFind t.brs p with
  | none=>simp
  | some b =>
   obtain⟨k,hk,e⟩:=List.mem_iff_getElem.1 (find_in hb).1
   have:=h.few.2 k hk
   rw[e] at this
   exact this
def MEnd (w0:World) (E:Nat) (t':Tr) (n:Int) (e:Ending) (w':World):Prop:=e=.returned (.int .i64 n)∧Grew w0 w'∧(n=0→∃ bv',EdB w0.heap.size E bv' t' w')
section
variable {w0:World} {E:Nat} {bv:Value} {t:Tr} {w:World}
theorem EdB.at_ {base:Nat} (h:EdB base E bv t w) {i:Nat} (hi:i<t.brs.length):∃ B cap,bv=.slice (some ⟨B,0,none⟩) t.brs.length cap:=by
 obtain⟨rv,cs,hE⟩:=h
 obtain⟨B,cap,hbv,-,-,-⟩:=own_form hE.brs (by omega)
 exact⟨B,cap,hbv⟩
theorem find_at {l:List Br} {n:Int} {b:Br} (h:brFind l n=some b):∃ i,∃ hi:i<l.length,l[i]=b∧l[i].id=n:=by
 obtain⟨k,hk,_,e⟩:=brIdx_some h
 exact⟨k,hk,e,by rw[e];exact(find_in h).2⟩
set_option maxHeartbeats 2000000 in
theorem edStands {base:Nat} (h:EdB base E bv t w) (hT:TOk t) (p lv:Int) (hp:p=0∨∃ b,brFind t.brs p=some b) :
  Calls Tryz.prog 130 #[.pointer (some ⟨E,0,none⟩),.int .i64 p,.int .i64 lv] w fun e w'=>e=.returned (.int .i64 (if standsB t p lv then 0 else 18))∧Grew w w':=by
 by_cases hz:p=0
 ·subst hz
  have hs:standsB t 0 lv=(lv == 1):=by
   unfold standsB
   rw[if_pos rfl]
  rw[hs]
  cases hl:(lv == 1)
  all_goals
   go_enter Tryz.func130,Tryz.ntmps130
   go_wp2
   go_ret
   exact⟨rfl,Grew.refl w⟩
 ·obtain⟨b,hb⟩:=hp.resolve_left hz
  obtain⟨i,hi,eb,ei⟩:=find_at hb
  obtain⟨B,cap,hbv⟩:=h.at_ hi
  have hs:standsB t p lv=((lv != 1) && fitsF t.brs[i].level lv):=by
   unfold standsB
   rw[if_neg hz,hb,← eb]
   show fitsF t.brs[i].level lv=_
   cases hf:fitsF t.brs[i].level lv with
   | false=>rw[Bool.and_false]
   | true=>simp[fits_one hf]
  rw[hs]
  have kB:=edBranch h hT.asc hT.len hi hbv
  rw[ei] at kB
  have hz':(p != 0)=true:=by simpa using hz
  obtain⟨rv,cs,hE⟩:=h
  obtain⟨-,-,c2,-⟩:=hE.at_ hi hbv
  have KB:=Lib.hid kB
  have KF:=Lib.hid (tFits t.brs[i].level lv)
  generalize fitsF t.brs[i].level lv=q at KF ⊢
  generalize t.brs[i].level=bl at c2 KF
  have C2:=Lib.hid c2
  clear hE hb eb ei hs kB hbv hp hz c2 hT
  cases hl:(lv != 1)
  ·go_enter Tryz.func130,Tryz.ntmps130
   go_wp2
   go_ret
   exact⟨rfl,Grew.refl w⟩
  ·cases q
   all_goals
    go_enter Tryz.func130,Tryz.ntmps130
    go_wp2_with fail
    refine KB.out.mono ?_
    rintro e w1 ⟨rfl,g1⟩
    have c2:=keep_cell g1 C2.out
    dsimp only
    go_wp2_with fail
    refine(KF.out _).mono ?_
    rintro e w2 ⟨rfl,rfl⟩
    dsimp only
    go_wp2
    go_ret
    exact⟨rfl,g1⟩
theorem edUsed {base:Nat} (h:EdB base E bv t w) (hT:TOk t) (m:ByteArray) (but:Int) :
  Calls Tryz.prog 132 #[.pointer (some ⟨E,0,none⟩),.string m,.int .i64 but] w fun e w'=>e=.returned (.bool (usedB t m but))∧Grew w w':=by
 rw[used_first hT.sound]
 obtain⟨rv,-,hb,c0,c1,-,-⟩:=h.reads
 have k:=tMarked t.brs m rv bv w hb
 unfold markedF at k
 generalize (if m.toList.isEmpty then none else t.brs.find? fun b=>b.mark.toList == m.toList)=O at k ⊢
 unfold markV at k
 have K:=Lib.hid k
 clear k h hb hT
 cases O with
 | none =>
  go_enter Tryz.func132,Tryz.ntmps132
  go_wp2_with fail
  refine K.out.mono ?_
  rintro e w1 ⟨rfl,g1⟩
  dsimp only [Option.isSome_none]
  go_wp2
  go_ret
  exact⟨rfl,g1⟩
 | some b =>
  have hbe:(!(b.id == but))=(b.id != but):=rfl
  simp only [hbe]
  go_enter Tryz.func132,Tryz.ntmps132
  go_wp2_with fail
  refine K.out.mono ?_
  rintro e w1 ⟨rfl,g1⟩
  dsimp only [Option.isSome_some]
  go_wp2
  go_ret
  exact⟨rfl,g1⟩
open Classical in
theorem edLimit {base:Nat} (h:EdB base E bv t w) (hT:TOk t) (hE:Env w) :
  Calls Tryz.prog 135 #[.pointer (some ⟨E,0,none⟩)] w fun e w'=>e=.returned (.int .i64 (if RightT t then 0 else 15))∧Grew w w':=by
 obtain⟨rv,hr,hb,c0,c1,-,-⟩:=h.reads
 obtain⟨rs,l⟩:=t
 have k:=tCheckX rs l rv bv w hE hr hb hT.few hT.roots
 have hS:=(sound_iff _).2 hT.sound
 obtain⟨q,hq⟩:∃ q:Int,(if RightT ⟨rs,l⟩ then(0:Int) else 15)=q:=⟨_,rfl⟩
 have HQ:RowKit.Hid (∀ n:Int,(n=0↔RightT ⟨rs,l⟩)→(n=0∨n=15)→n=q):=fun n h1 h2=>by
  rw[← hq]
  by_cases hT:RightT ⟨rs,l⟩
  ·rw[if_pos hT]
   exact h1.2 hT
  ·rw[if_neg hT]
   exact h2.resolve_left fun h=>hT (h1.1 h)
 rw[hq]
 have K:=Lib.hid k
 have HS:=Lib.hid hS
 clear k h hb hr hT hE hq hS
 go_enter Tryz.func135,Tryz.ntmps135
 go_wp2_with fail
 refine K.out.mono ?_
 rintro e w1 ⟨i,n,rfl,hn,-,hs,g1⟩
 have h1:=HQ.out n hn (hs HS.out)
 subst h1
 have h2:=hs HS.out
 clear HQ hn hs
 dsimp only
 rcases h2 with rfl|rfl
 ·go_wp2
  go_ret
  exact⟨rfl,g1⟩
 ·go_wp2
  go_ret
  exact⟨rfl,g1⟩
end
end Go.Proofs.YtdochkemaiokfaaGreat