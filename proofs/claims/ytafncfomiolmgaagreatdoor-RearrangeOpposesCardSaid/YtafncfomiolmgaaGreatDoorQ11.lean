/- Lemmas on what the functions of the program and of the library compute: Es6, PlainCr, Es7, Es7b, PlainCm. The conditions stand at each. -/
import Derived.Test.YtafncfomiolmgaaGreatDoorQ10
import Derived.Deep.RegionWith
namespace Go.Proofs.YtafncfomiolmgaaGreatDoor
open Go.RowKit
theorem erase_filter {l:List Br} (h:idsAsc l) {i:Nat} (hi:i<l.length) {n:Int} (hn:l[i].id=n):l.eraseIdx i=l.filter fun c=>!(c.id == n):=by
 induction l generalizing i with
 | nil=>simp at hi
 | cons x r ih =>
  have h':=List.pairwise_cons.1 h
  cases i with
  | zero =>
   simp only [List.getElem_cons_zero] at hn
   rw[List.eraseIdx_cons_zero,List.filter_cons_of_neg (by simp[hn])]
   refine(List.filter_eq_self.2 fun y hy=>?_).symm
   have:=h'.1 y hy
   simp only [Bool.not_eq_true',beq_eq_false_iff_ne]
   omega
  | succ i =>
   simp only [List.getElem_cons_succ] at hn
   have hi':i<r.length:=by simpa using hi
   have:=h'.1 _ (List.getElem_mem hi')
   rw[List.eraseIdx_cons_succ,List.filter_cons_of_pos (by simp only [Bool.not_eq_true',beq_eq_false_iff_ne];omega),ih h'.2 hi' hn]
section
variable {base E:Nat} {rv bv v':Value} {cs:List BrC} {t:Tr} {w w1:World}
theorem Ed.erase (h:Ed base E rv bv cs t w) {i:Nat} (hi:i<cs.length) (hg:w.grownBy w1 bv.ownBlock) (hv:w1.ownsRow base 53 6 v' (cs.eraseIdx i).length ((cs.eraseIdx i).flatMap BrC.cells)) :
  Ed base E rv v' (cs.eraseIdx i) ⟨t.roots,t.brs.eraseIdx i⟩ (w1.setCell ⟨E,1,none⟩ v'):=by
 have hit:i<t.brs.length:=by have:=h.len;omega
 have hl:(cs.eraseIdx i).length=(t.brs.eraseIdx i).length:=by rw[List.length_eraseIdx_of_lt hi,List.length_eraseIdx_of_lt hit,h.len]
 refine h.setBrs hg (by rw[← hl];exact hv) hl (fun j hj hj'=>?_) ?_
 ·have key:∀ m (hm:m<cs.length) (hm':m<t.brs.length),cs[m]=t.brs[m].c cs[m].kv∧OwnI base w1 cs[m].kv t.brs[m].kids:=fun m hm hm' =>
   ⟨(h.each m hm hm').1,own_kept (h.each m hm hm').2 hg (fun g hr hk=>own_off (h.each m hm hm').2 h.brs ne_IB g hk hr)⟩
  rw[List.length_eraseIdx_of_lt hi] at hj
  rw[List.getElem_eraseIdx,List.getElem_eraseIdx]
  split
  ·exact key j _ _
  ·exact key (j+1) _ _
 ·refine List.Pairwise.sublist ?_ h.apart
  exact(List.Sublist.map _ (List.eraseIdx_sublist ..)).cons_cons _
end
theorem removeT_erase {t:Tr} {o:Opn} (h:idsAsc t.brs) {i:Nat} (hi:i<t.brs.length) (hn:t.brs[i].id=o.unit):⟨(setK t t.brs[i].parent (withoutF o.unit (childs t t.brs[i].parent))).roots,(setK t t.brs[i].parent (withoutF o.unit (childs t t.brs[i].parent))).brs.eraseIdx i⟩=removeT t o t.brs[i]:=by
 unfold removeT
 simp only [Tr.mk.injEq,true_and]
 have hl:(setK t t.brs[i].parent (withoutF o.unit (childs t t.brs[i].parent))).brs.length=t.brs.length:=by
  rw[setK_brs]
  split<;>simp
 have hc:=core_setK t t.brs[i].parent (withoutF o.unit (childs t t.brs[i].parent))
 have hia:=asc_core h hc.symm
 refine erase_filter hia b_37 ?_
 have h1:((setK t t.brs[i].parent (withoutF o.unit (childs t t.brs[i].parent))).brs.map core)[i]? = (t.brs.map core)[i]?:=by rw[hc]
 rw[List.getElem?_map,List.getElem?_map,List.getElem?_eq_getElem b_37,List.getElem?_eq_getElem hi] at h1
 have h2:=Option.some.inj h1
 have h3:=congrArg Br.id h2
 exact h3.trans hn
section
variable {w0:World} {E:Nat} {bv:Value} {t:Tr} {w:World}
theorem removeDone {w1 w2:World} {t1 R:Tr} {rv v':Value} {cs:List BrC} {i:Nat} (h:Ed w0.heap.size E rv bv cs t1 w1) (hi:i<cs.length) (hR:⟨t1.roots,t1.brs.eraseIdx i⟩=R) (hG:Grew w0 w1) (hg:w1.grownBy w2 bv.ownBlock) (hv:w2.ownsRow w0.heap.size 53 6 v' (cs.eraseIdx i).length ((cs.eraseIdx i).flatMap BrC.cells)) :
  MEnd w0 E R 0 (.returned (.int .i64 0)) (w2.setCell ⟨E,1,none⟩ v')∧w2.frozen? ⟨E,1,none⟩=false∧w2.cell? ⟨E,1,none⟩=some bv:=by
 have hbx:w2.heap[E]? = some (.cells #[rv,bv] 73 (0,0)):=heap_kept h.box hg (own_ne h.brs h.box ne_BE)
 refine⟨⟨rfl,(Below.grown hG hg hG.size (fun b e=>(h.brs.lt b e).1)).setCell (p:=⟨E,1,none⟩) h.le v',fun _=>⟨v',rv,cs.eraseIdx i,?_⟩⟩,by simp[World.frozen?,hbx],by simp[World.cell?,hbx]⟩
 rw[← hR]
 exact h.erase hi hg hv
set_option maxHeartbeats 4000000 in
theorem edRemove (h:EdB w0.heap.size E bv t w) (hG:Grew w0 w) (hT:TOk t) (o:Opn) (R:Tr) (hR:∀ u,brFind t.brs o.unit=some u→removeT t o u=R) :
  Calls Tryz.prog 51 #[.pointer (some ⟨E,0,none⟩),o.agg] w (MEnd w0 E R (faultR t o)):=by
 have hC:=fun W (hW:Grew (w.alloc (.cells o.cells.toArray 25)) W)=>opn_cells o hW
 have HC:=uZ hC
 have HG:=uZ hG
 have KF:=uZ (fun W (hW:Grew w W)=>edFind (h.grew hW) hT.asc hT.len o.unit)
 unfold faultR
 cases hb:brFind t.brs o.unit with
 | none =>
  rw[hb] at KF
  dsimp only [Option.isSome_none] at KF ⊢
  obtain⟨oi,od,ok,ou,op,ob,ol,ot,om,oo,oa,on⟩:=o
  unfold Opn.agg
  clear h hG hT hb hC hR
  dsimp only [Opn.cells] at KF HC ⊢
  go_enter Tryz.func51,Tryz.ntmps51
  go_wp2_with fail
  refine(KF.out _ ((uX w).alloc _)).mono ?_
  rintro e w1 ⟨rfl,g1⟩
  dsimp only
  go_wp2
  go_ret
  exact⟨rfl,HG.out.trans (((uX w).alloc _).trans g1),fun h=>by cases h⟩
 | some b =>
  obtain⟨i,hi,eb,ei⟩:=find_at hb
  have hpos:=pos_at hT.asc hi
  rw[ei] at hpos
  rw[hb,hpos] at KF
  dsimp only [Option.isSome_some] at KF ⊢
  obtain⟨rv,cs,hE⟩:=h
  have hEB:EdB w0.heap.size E bv t w:=⟨rv,cs,hE⟩
  obtain⟨B,cap,hbv⟩:=hEB.at_ hi
  obtain⟨-,-,-,-,-,⟨kv,c5,hkv⟩,-,-,-⟩:=hE.at_ hi hbv
  have hcap:t.brs.length≤cap∧cap≤maxLen:=by
   have h1:=hE.brs
   rw[hbv] at h1
   obtain⟨g',cap',he,_,_,h3⟩:=own_form h1 b_37
   injection he with _ _ hc
   subst hc
   exact⟨h3,own_max h1⟩
  unfold maxLen at hcap
  obtain⟨hc1,hc2⟩:=hcap
  have hib:(i:Int)<(t.brs.length:Int):=by omega
  have h0z:(0:Int)≤(i:Int):=by omega
  have cb:=hE.cells.2.1
  rw[hbv] at cb
  obtain⟨Ak,ck,rfl,hlk,hck,-⟩:=hkv.open_
  unfold maxLen at hck
  rw[eb] at c5 hlk
  have C5:=uZ c5
  have CB:=uZ cb
  by_cases hk:b.kids=[]
  case neg =>
   rw[if_pos hk]
   have hkz:(0:Int)<(b.kids.length:Int):=by
    have:=List.length_pos_iff.2 hk
    omega
   obtain⟨oi,od,ok,ou,op,ob,ol,ot,om,oo,oa,on⟩:=o
   unfold Opn.agg
   generalize t.brs.length=n at hib hc1 CB
   clear hE hEB hG hT hb hC hR hi hbv c5 cb hkv eb ei hpos hk
   dsimp only [Opn.cells] at KF HC ⊢
   go_enter Tryz.func51,Tryz.ntmps51
   go_wp2_with fail
   refine(KF.out _ ((uX w).alloc _)).mono ?_
   rintro e w1 ⟨rfl,g1⟩
   have d5:=uQ (((uX w).alloc _).trans g1) C5.out
   have db:=uQ (((uX w).alloc _).trans g1) CB.out
   dsimp only
   go_wp2
   go_ret
   exact⟨rfl,HG.out.trans (((uX w).alloc _).trans g1),fun h=>by cases h⟩
  case pos =>
   rw[if_neg (fun h=>h hk)]
   have hkl:b.kids.length=0:=by rw[hk];rfl
   rw[hkl] at C5
   have hpar:t.brs[i].parent=0∨∃ c∈t.brs,c.id=t.brs[i].parent:=parent_there hT.sound (List.getElem_mem hi)
   have KT:=uZ (fun W (hW:Grew w W)=>edTake (hEB.grew hW) (hG.trans hW) hT.asc hT.len hi hpar)
   have HREQ:=uZ ((removeT_erase hT.asc hi ei).trans (show removeT t o t.brs[i]=R from by rw[eb];exact hR b hb))
   rw[ei] at KT
   have hcl:cs.length=t.brs.length:=hE.len
   have hl1:(setK t t.brs[i].parent (withoutF o.unit (childs t t.brs[i].parent))).brs.length=t.brs.length:=by
    rw[setK_brs]
    split<;>simp
   generalize setK t t.brs[i].parent (withoutF o.unit (childs t t.brs[i].parent))=t1 at KT HREQ hl1
   have HL1:=uZ hl1
   have HTL:=uZ hT.len
   have hbv2:=uZ hbv
   obtain⟨oi,od,ok,ou,op,ob,ol,ot,om,oo,oa,on⟩:=o
   unfold Opn.agg
   have hi2:=hi
   generalize t.brs.length=n at hib hc1 CB HL1 HTL hbv2 hi2
   clear hE hEB hG hT hb hC hR hbv c5 cb hkv eb ei hpos hk hpar hcl hl1 hlk hkl hi
   dsimp only [Opn.cells] at KF HC KT ⊢
   go_enter Tryz.func51,Tryz.ntmps51
   go_wp2_with fail
   refine(KF.out _ ((uX w).alloc _)).mono ?_
   rintro e w1 ⟨rfl,g1⟩
   obtain⟨o3,-,-,-,-,-⟩:=HC.out w1 g1
   have HG1:=uZ (((uX w).alloc _).trans g1)
   have d5:=uQ HG1.out C5.out
   have db:=uQ HG1.out CB.out
   clear g1
   dsimp only
   go_wp2_with fail
   refine(KT.out _ HG1.out).mono ?_
   rintro e w2 ⟨rfl,hE2,hG2⟩
   obtain⟨rv2,cs2,hE2⟩:=hE2
   have e1:=hE2.cells.2.1
   have hcs:cs2.length=n:=hE2.len.trans HL1.out
   have hdel:=deleteB w0.heap.size cs2 i b_37 bv w2 (by rw[hE2.len];exact hE2.brs) hE2.one (by rw[hcs];exact HTL.out)
   have HE2:=uZ hE2
   have HDEL:=uZ hdel
   have HG2:=uZ hG2
   have HCS:=uZ hcs
   clear d5 db o3 hE2 hdel hG2 hcs
   rw[hbv2.out] at e1
   dsimp only
   go_wp2_with fail
   rw[← hbv2.out]
   refine HDEL.out.mono ?_
   rintro e w3 ⟨v3,rfl,own3,hgr3,-⟩
   obtain⟨A3,c3,rfl⟩:=own_slice own3
   obtain⟨hd,hz,hcz⟩:=removeDone HE2.out (by rw[HCS.out];exact hi2) HREQ.out HG2.out hgr3 own3
   have HDD:=uZ hd
   clear hd own3 hgr3 e1
   dsimp only
   go_wp2
   go_ret
   exact HDD.out
end
end Go.Proofs.YtafncfomiolmgaaGreatDoor
namespace Go.Proofs.YtafncfomiolmgaaGreatDoor
open Go.RowKit
theorem tok_of {t:Tr} (h:SoundM t):TOk t:=by
 have hl:∀ {ks:List Int} {p:Int},KidsAre t.brs ks p→ks.length≤256:=by
  intro ks p hk
  have h1:=List.Nodup.length_le_of_subset (l₂:=t.brs.map Br.id) hk.1 (fun x hx=>by
   obtain⟨b,hb,_,e⟩:=(hk.2 x).1 hx
   exact List.mem_map.2 ⟨b,hb,e⟩)
  rw[List.length_map] at h1
  exact Nat.le_trans h1 h.len
 have h0:=h.len
 refine⟨h,⟨by omega,fun i hi=>?_⟩,?_⟩
 ·have:=hl (h.kids t.brs[i] (List.getElem_mem hi))
  omega
 ·have:=hl h.roots
  omega
theorem insB_at (b:Br):∀ l:List Br,insB b l=l.take (posF l b.id)++[b]++l.drop (posF l b.id)
 | []=>rfl
 | x::r=>by
  have ih:=insB_at b r
  unfold insB posF passes
  by_cases h:x.id<b.id
  ·have hp:decide (cmpId b.id x<0)=true:=by
    rw[decide_eq_true_eq,cmpId_lt]
    exact h
   rw[if_pos h,List.takeWhile_cons,if_pos hp,List.length_cons,List.take_succ_cons,List.drop_succ_cons,ih]
   rfl
  ·have hp:¬ decide (cmpId b.id x<0)=true:=by
    rw[decide_eq_true_eq,cmpId_lt]
    exact h
   rw[if_neg h,List.takeWhile_cons,if_neg hp]
   rfl
theorem pos_le (l:List Br) (id:Int):posF l id≤l.length:=by
 unfold posF passes
 exact(List.takeWhile_sublist _).length_le
def newBr (o:Opn):Br:=⟨o.unit,o.parent,o.level,o.title,o.mark,[]⟩
theorem create_childs {t:Tr} {o:Opn} (h:SoundM t) (hc:CanCreate t o):childs ⟨t.roots,insB (newBr o) t.brs⟩ o.parent=childs t o.parent∧(o.parent=0∨∃ b∈insB (newBr o) t.brs,b.id=o.parent)∧o.parent≠o.unit:=by
 have hu0:o.unit≠0:=unit_pos hc.unit
 have hp:=stands_there hc.stands
 have hne:o.parent≠o.unit:=by
  rcases hp with e|⟨b,hb,e⟩
  ·rw[e]
   exact fun e=>hu0 e.symm
  ·rw[← e]
   exact hc.new b hb
 refine⟨?_,?_,hne⟩
 ·rw[childs_insB h.asc (newBr o) hc.new hu0]
  exact if_neg hne
 ·rcases hp with e|⟨b,hb,e⟩
  ·exact .inl e
  ·exact .inr ⟨b,(mem_insB _ _ _).2 (.inr hb),e⟩
theorem create_eq {t:Tr} {o:Opn} (h:SoundM t) (hc:CanCreate t o):setK ⟨t.roots,insB (newBr o) t.brs⟩ o.parent (putF o.unit o.before (childs ⟨t.roots,insB (newBr o) t.brs⟩ o.parent))=createT t o:=by
 obtain⟨h1,-,hne⟩:=create_childs h hc
 rw[h1]
 unfold createT setK
 by_cases h0:o.parent=0
 ·rw[if_pos h0,if_pos h0]
  rfl
 ·rw[if_neg h0,if_neg h0]
  simp only [Tr.mk.injEq,true_and]
  have hg:∀ b:Br,(if b.id=o.parent then { b with kids:=putF o.unit o.before (childs t o.parent) } else b).id=b.id:=fun b=>by split<;>rfl
  rw[map_insB _ hg]
  have:(if (newBr o).id=o.parent then { newBr o with kids:=putF o.unit o.before (childs t o.parent) } else newBr o)=newBr o:=if_neg (fun e=>hne e.symm)
  rw[this]
  rfl
theorem create_asc {t:Tr} {o:Opn} (h:SoundM t) (hc:CanCreate t o):idsAsc (insB (newBr o) t.brs):=asc_insB (newBr o) t.brs h.asc hc.new
theorem create_put {t:Tr} {o:Opn} (h:SoundM t) (hc:CanCreate t o):(o.before=0→(0:Int)∉childs t o.parent)∧(o.before≠0→o.before∈childs t o.parent):=by
 refine⟨fun _ hm=>?_,hc.before⟩
 obtain⟨b,hb,_,e⟩:=(childs_mem h (stands_there hc.stands)).1 hm
 exact unit_pos (h.units b hb) e
end Go.Proofs.YtafncfomiolmgaaGreatDoor
namespace Go.Proofs.YtafncfomiolmgaaGreatDoor
open Go.RowKit
open Classical in
noncomputable def resC (t:Tr) (o:Opn):Int:=if faultC t o≠0 then faultC t o else if RightT (createT t o) then 0 else 15
theorem resC_1 {t:Tr} {o:Opn} (h:(brFind t.brs o.unit).isSome=true):resC t o=6:=by
 have:faultC t o=6:=by unfold faultC;rw[if_pos h]
 unfold resC
 rw[this,if_pos b_36]
theorem resC_2 {t:Tr} {o:Opn} (h:(brFind t.brs o.unit).isSome=false) (h2:o.parent≠0∧(brFind t.brs o.parent).isSome=false):resC t o=7:=by
 have:faultC t o=7:=by unfold faultC;rw[if_neg (by simp[h]),if_pos h2]
 unfold resC
 rw[this,if_pos b_36]
theorem resC_3 {t:Tr} {o:Opn} (h:(brFind t.brs o.unit).isSome=false) (h2:¬ (o.parent≠0∧(brFind t.brs o.parent).isSome=false)) (h3:standsB t o.parent o.level=false):resC t o=18:=by
 have:faultC t o=18:=by unfold faultC;rw[if_neg (by simp[h]),if_neg h2,if_pos h3]
 unfold resC
 rw[this,if_pos b_36]
theorem resC_4 {t:Tr} {o:Opn} (h:(brFind t.brs o.unit).isSome=false) (h2:¬ (o.parent≠0∧(brFind t.brs o.parent).isSome=false)) (h3:standsB t o.parent o.level=true) (h4:o.before≠0∧o.before∉childs t o.parent):resC t o=7:=by
 have:faultC t o=7:=by unfold faultC;rw[if_neg (by simp[h]),if_neg h2,if_neg (by simp[h3]),if_pos h4]
 unfold resC
 rw[this,if_pos b_36]
theorem resC_5 {t:Tr} {o:Opn} (h:(brFind t.brs o.unit).isSome=false) (h2:¬ (o.parent≠0∧(brFind t.brs o.parent).isSome=false)) (h3:standsB t o.parent o.level=true) (h4:¬ (o.before≠0∧o.before∉childs t o.parent)) (h5:usedB t o.mark 0=true):resC t o=19:=by
 have:faultC t o=19:=by unfold faultC;rw[if_neg (by simp[h]),if_neg h2,if_neg (by simp[h3]),if_neg h4,if_pos h5]
 unfold resC
 rw[this,if_pos b_36]
theorem resC_6 {t:Tr} {o:Opn} (h:(brFind t.brs o.unit).isSome=false) (h2:¬ (o.parent≠0∧(brFind t.brs o.parent).isSome=false)) (h3:standsB t o.parent o.level=true) (h4:¬ (o.before≠0∧o.before∉childs t o.parent)) (h5:usedB t o.mark 0=false) (h6:256≤t.brs.length):resC t o=8:=by
 have:faultC t o=8:=by unfold faultC;rw[if_neg (by simp[h]),if_neg h2,if_neg (by simp[h3]),if_neg h4,if_neg (by simp[h5]),if_pos h6]
 unfold resC
 rw[this,if_pos b_36]
open Classical in
theorem resC_7 {t:Tr} {o:Opn} (h:(brFind t.brs o.unit).isSome=false) (h2:¬ (o.parent≠0∧(brFind t.brs o.parent).isSome=false)) (h3:standsB t o.parent o.level=true) (h4:¬ (o.before≠0∧o.before∉childs t o.parent)) (h5:usedB t o.mark 0=false) (h6:¬ 256≤t.brs.length):faultC t o=0∧resC t o=if RightT (createT t o) then 0 else 15:=by
 have:faultC t o=0:=by unfold faultC;rw[if_neg (by simp[h]),if_neg h2,if_neg (by simp[h3]),if_neg h4,if_neg (by simp[h5]),if_neg h6]
 refine⟨this,?_⟩
 unfold resC
 rw[this,if_neg (fun h=>h rfl)]
section
variable {w0:World} {E:Nat} {bv:Value} {t:Tr} {w:World}
theorem edBranchR {base:Nat} (h:EdB base E bv t w) (hT:TOk t) (id:Int):∃ A:Option Addr,A.isSome=(brFind t.brs id).isSome∧∀ W,Grew w W→Calls Tryz.prog 86 #[.pointer (some ⟨E,0,none⟩),.int .i64 id] W fun e w'=>e=.returned (.pointer A)∧Grew W w':=by
 cases hb:brFind t.brs id with
 | none=>exact⟨none,rfl,fun W hW=>edBranchNo (h.grew hW) hT.asc hT.len hb⟩
 | some b =>
  obtain⟨i,hi,-,ei⟩:=find_at hb
  obtain⟨B,cap,hbv⟩:=h.at_ hi
  refine⟨some ⟨B,i*6,none⟩,rfl,fun W hW=>?_⟩
  have:=edBranch (h.grew hW) hT.asc hT.len hi hbv
  rw[ei] at this
  exact this
theorem insertDone {w1 w2:World} {t1:Tr} {rv v':Value} {cs:List BrC} {k:Nat} {b:Br} (h:Ed w0.heap.size E rv bv cs t w1) (hk:k≤cs.length) (hb:b.kids=[]) (hR:⟨t.roots,t.brs.take k++[b]++t.brs.drop k⟩=t1) (hG:Grew w0 w1) (hg:w1.grownBy w2 bv.ownBlock)
  (hv:w2.ownsRow w0.heap.size 53 6 v' (cs.length+1) ((cs.take k++[b.c (.slice none 0 0)]++cs.drop k).flatMap BrC.cells)) :
  (∃ bv',EdB w0.heap.size E bv' t1 (w2.setCell ⟨E,1,none⟩ v'))∧Grew w0 (w2.setCell ⟨E,1,none⟩ v')∧w2.frozen? ⟨E,1,none⟩=false∧w2.cell? ⟨E,1,none⟩=some bv:=by
 have hbx:w2.heap[E]? = some (.cells #[rv,bv] 73 (0,0)):=heap_kept h.box hg (own_ne h.brs h.box ne_BE)
 refine⟨⟨v',rv,cs.take k++[b.c (.slice none 0 0)]++cs.drop k,?_⟩,(Below.grown hG hg hG.size (fun b e=>(h.brs.lt b e).1)).setCell (p:=⟨E,1,none⟩) h.le v',by simp[World.frozen?,hbx],by simp[World.cell?,hbx]⟩
 rw[← hR]
 have hlen:=h.len
 have hl:(cs.take k++[b.c (.slice none 0 0)]++cs.drop k).length=(t.brs.take k++[b]++t.brs.drop k).length:=by simp[hlen]
 have hl2:(t.brs.take k++[b]++t.brs.drop k).length=cs.length+1:=by simp only [List.length_append,List.length_take,List.length_drop,List.length_cons,List.length_nil];omega
 have key:∀ m (hm:m<cs.length) (hm':m<t.brs.length),cs[m]=t.brs[m].c cs[m].kv∧OwnI w0.heap.size w2 cs[m].kv t.brs[m].kids:=fun m hm hm' =>
  ⟨(h.each m hm hm').1,own_kept (h.each m hm hm').2 hg (fun g hr hk=>own_off (h.each m hm hm').2 h.brs ne_IB g hk hr)⟩
 refine h.setBrs hg (by rw[hl2];exact hv) hl (fun j hj hj'=>?_) ?_
 ·rw[hl,hl2] at hj
  rcases Nat.lt_trichotomy j k with hjk|hjk|hjk
  ·have e1:(cs.take k++[b.c (.slice none 0 0)]++cs.drop k)[j]? = cs[j]?:=by
    rw[List.append_assoc,List.getElem?_append_left b_32,List.getElem?_take,if_pos hjk]
   have e2:(t.brs.take k++[b]++t.brs.drop k)[j]? = t.brs[j]?:=by
    rw[List.append_assoc,List.getElem?_append_left b_32,List.getElem?_take,if_pos hjk]
   rw[List.getElem?_eq_getElem b_37,List.getElem?_eq_getElem b_37] at e1 e2
   rw[Option.some.inj e1,Option.some.inj e2]
   exact key j b_37 b_37
  ·subst hjk
   have e1:(cs.take j++[b.c (.slice none 0 0)]++cs.drop j)[j]? = some (b.c (.slice none 0 0)):=by
    rw[List.append_assoc,List.getElem?_append_right b_32,List.length_take,Nat.min_eq_left hk,Nat.sub_self]
    rfl
   have e2:(t.brs.take j++[b]++t.brs.drop j)[j]? = some b:=by
    rw[List.append_assoc,List.getElem?_append_right b_32,List.length_take,Nat.min_eq_left b_37,Nat.sub_self]
    rfl
   rw[List.getElem?_eq_getElem b_37] at e1 e2
   rw[Option.some.inj e1,Option.some.inj e2]
   refine⟨rfl,?_⟩
   show OwnI w0.heap.size w2 (.slice none 0 0) b.kids
   rw[hb]
   exact World.ownsRow_nil _ _ _ _
  ·have e1:(cs.take k++[b.c (.slice none 0 0)]++cs.drop k)[j]? = cs[j-1]?:=by
    rw[List.getElem?_append_right (by simp;omega),List.getElem?_drop]
    congr 1
    simp only [List.length_append,List.length_take,List.length_cons,List.length_nil]
    omega
   have e2:(t.brs.take k++[b]++t.brs.drop k)[j]? = t.brs[j-1]?:=by
    rw[List.getElem?_append_right (by simp;omega),List.getElem?_drop]
    congr 1
    simp only [List.length_append,List.length_take,List.length_cons,List.length_nil]
    omega
   rw[List.getElem?_eq_getElem b_37,List.getElem?_eq_getElem b_37] at e1 e2
   rw[Option.some.inj e1,Option.some.inj e2]
   exact key (j-1) b_37 b_37
 ·obtain⟨h1,h2⟩:=List.pairwise_cons.1 h.apart
  have hmap:(cs.take k++[b.c (.slice none 0 0)]++cs.drop k).map BrC.kv=(cs.map BrC.kv).take k++[.slice none 0 0]++(cs.map BrC.kv).drop k:=by
   simp[List.map_take,List.map_drop,Br.c]
  rw[hmap]
  have hsplit:(cs.map BrC.kv)=(cs.map BrC.kv).take k++(cs.map BrC.kv).drop k:=(List.take_append_drop _ _).symm
  have hnone:∀ g,Value.ownBlock (.slice none 0 0)≠some g:=fun g e=>by simp[Value.ownBlock] at e
  refine List.pairwise_cons.2 ⟨fun v hv g hg'=>?_,?_⟩
  ·simp only [List.mem_append,List.mem_singleton] at hv
   rcases hv with (hv|hv)|hv
   ·exact h1 v (List.mem_of_mem_take hv) g hg'
   ·rw[hv];exact hnone g
   ·exact h1 v (List.mem_of_mem_drop hv) g hg'
  ·rw[hsplit] at h2
   obtain⟨p1,p2,p3⟩:=List.pairwise_append.1 h2
   refine List.pairwise_append.2 ⟨List.pairwise_append.2 ⟨p1,List.pairwise_singleton _ _,fun a _ c hc g _=>?_⟩,p2,fun a ha c hc g hga=>?_⟩
   ·rw[List.mem_singleton.1 hc];exact hnone g
   ·rcases List.mem_append.1 ha with ha|ha
    ·exact p3 a ha c hc g hga
    ·rw[List.mem_singleton.1 ha] at hga
     exact absurd hga (hnone g)
end
end Go.Proofs.YtafncfomiolmgaaGreatDoor
namespace Go.Proofs.YtafncfomiolmgaaGreatDoor
open Go.RowKit
section
variable {w0:World} {E:Nat} {bv:Value} {t:Tr} {o:Opn}
theorem createIns {W0:World} (hS:SoundM t) (h:EdB w0.heap.size E bv t W0) (hG:Grew w0 W0) (W:World) (hW:Grew W0 W) (hv:W.heap[W0.heap.size]? = some (.cells ((newBr o).c (.slice none 0 0)).cells.toArray 53 (0,0))) :
  Calls Tryz.prog 91 #[bv,.int .i64 (posF t.brs o.unit),.slice (some ⟨W0.heap.size,0,none⟩) 1 1] W fun e w7=>∃ A7 n7 c7,e=.returned (.slice A7 n7 c7)∧(∃ bv',EdB w0.heap.size E bv' ⟨t.roots,insB (newBr o) t.brs⟩ (w7.setCell ⟨E,1,none⟩ (.slice A7 n7 c7)))∧Grew w0 (w7.setCell ⟨E,1,none⟩ (.slice A7 n7 c7))∧w7.frozen? ⟨E,1,none⟩=false∧w7.cell? ⟨E,1,none⟩=some bv∧∀ p x,W.cell? p=some x→some p.block≠bv.ownBlock→w7.cell? p=some x:=by
 obtain⟨rv,cs,hE⟩:=h
 have hT:=tok_of hS
 have hlen:=hE.len
 have hpl:=pos_le t.brs o.unit
 have hEW:=hE.grew hW
 refine(insertB w0 cs ((newBr o).c (.slice none 0 0)) (posF t.brs o.unit) W0.heap.size bv W (by rw[hlen];exact hEW.brs) (hG.trans hW) hE.one rfl b_37 (by rw[hlen];exact hT.len) hv (fun e=>by have:=(hE.brs.lt _ e.symm).2;omega)).mono ?_
 rintro e w7 ⟨v7,rfl,own7,hgr7,-⟩
 obtain⟨A7,c7,rfl⟩:=own_slice own7
 obtain⟨h1,h2,h3,h4⟩:=insertDone (t1:=⟨t.roots,insB (newBr o) t.brs⟩) hEW b_37 rfl (by rw[insB_at (newBr o) t.brs];rfl) (hG.trans hW) hgr7 own7
 exact⟨A7,_,c7,rfl,h1,h2,h3,h4,fun p x hp hne=>hgr7.cell hp hne⟩
theorem createPut {bv':Value} {W:World} (hS:SoundM t) (hc:CanCreate t o) (h8:EdB w0.heap.size E bv' ⟨t.roots,insB (newBr o) t.brs⟩ W) (hG8:Grew w0 W) :
  Calls Tryz.prog 92 #[.pointer (some ⟨E,0,none⟩),.int .i64 o.unit,.int .i64 o.parent,.int .i64 o.before] W fun e w'=>e=.returned (.tuple #[])∧EdB w0.heap.size E bv' (createT t o) w'∧Grew w0 w':=by
 obtain⟨c1,c2,-⟩:=create_childs hS hc
 obtain⟨p1,p2⟩:=create_put hS hc
 have hT:=tok_of hS
 have hl:(insB (newBr o) t.brs).length≤1000000:=by
  have:=hc.room
  rw[len_insB]
  omega
 have:=edPut h8 hG8 (create_asc hS hc) hl (p:=o.parent) c2 o.unit o.before (by rw[c1];exact p1) (by rw[c1];exact p2) (by rw[c1];exact hT.kids _)
 rw[create_eq hS hc] at this
 exact this
open Classical in
theorem createLimit {bv':Value} {W:World} (hS:SoundM t) (hc:CanCreate t o) (h9:EdB w0.heap.size E bv' (createT t o) W) (hEnv:Env W) :
  Calls Tryz.prog 93 #[.pointer (some ⟨E,0,none⟩)] W fun e w'=>e=.returned (.int .i64 (if RightT (createT t o) then 0 else 15))∧Grew W w':=edLimit h9 (tok_of (create_sound hS hc)) hEnv
end
end Go.Proofs.YtafncfomiolmgaaGreatDoor
namespace Go.Proofs.YtafncfomiolmgaaGreatDoor
open Go.RowKit
def takeM (t:Tr) (u:Br):Tr:=setK t u.parent (withoutF u.id (childs t u.parent))
def nameM (t:Tr) (u:Br) (p:Int):Tr:=setU (takeM t u) u.id fun b=>{ b with parent:=p }
theorem setU_childs (t:Tr) (n p q:Int):childs (setU t n fun b=>{ b with parent:=p }) q=childs t q:=by
 unfold childs
 by_cases h0:q=0
 ·rw[if_pos h0,if_pos h0]
  rfl
 ·rw[if_neg h0,if_neg h0]
  have e:brFind (setU t n fun b=>{ b with parent:=p }).brs q=(brFind t.brs q).map fun b=>if b.id=n then { b with parent:=p } else b:=find_map _ (fun b=>by split<;>rfl) q
  rw[e]
  cases brFind t.brs q with
  | none=>rfl
  | some b =>
   show(if b.id=n then { b with parent:=p } else b).kids=b.kids
   split<;>rfl
theorem setU_setK (t:Tr) (n p q:Int) (ks:List Int):setK (setU t n fun b=>{ b with parent:=p }) q ks=setU (setK t q ks) n fun b=>{ b with parent:=p }:=by
 by_cases h0:q=0
 ·unfold setK setU
  rw[if_pos h0,if_pos h0]
 ·unfold setK setU
  rw[if_neg h0,if_neg h0]
  show Tr.mk _ _=Tr.mk _ _
  rw[List.map_map,List.map_map]
  congr 1
  refine List.map_congr_left fun b _=>?_
  obtain⟨i,pa,lv,ti,mk,kd⟩:=b
  dsimp only [Function.comp_apply]
  by_cases h1:i=n
  ·subst h1
   by_cases h2:i=q
   ·subst h2
    simp
   ·simp[h2]
  ·by_cases h2:i=q
   ·subst h2
    simp[h1]
   ·simp[h1,h2]
section
variable {t:Tr} {o:Opn} {u:Br}
theorem move_ids (q:Int):(∃ b∈(nameM t u o.parent).brs,b.id=q)↔∃ b∈t.brs,b.id=q:=by
 rw[← setK_ids t u.parent (withoutF u.id (childs t u.parent)) q]
 unfold nameM setU takeM
 constructor
 ·rintro ⟨b,hb,e⟩
  obtain⟨c,hm,rfl⟩:=List.mem_map.1 hb
  refine⟨c,hm,?_⟩
  rw[← e]
  split<;>rfl
 ·rintro ⟨b,hb,e⟩
  refine⟨_,List.mem_map.2 ⟨b,hb,rfl⟩,?_⟩
  rw[← e]
  split<;>rfl
theorem move_eq (hc:CanMove t o u):setK (nameM t u o.parent) o.parent (putF o.unit o.before (childs (nameM t u o.parent) o.parent))=moveT t o u:=by
 unfold nameM moveT takeM
 rw[setU_setK,setU_childs,hc.id]
theorem move_asc (h:SoundM t):idsAsc (nameM t u o.parent).brs:=by
 have h1:idsAsc (takeM t u).brs:=by
  unfold takeM
  rw[setK_brs]
  split
  ·exact h.asc
  ·exact List.Pairwise.map _ (fun a b hab=>by unfold kidG;(repeat' split)<;>exact hab) h.asc
 exact List.Pairwise.map _ (fun a b hab=>by (repeat' split)<;>exact hab) h1
theorem move_len:(nameM t u o.parent).brs.length=t.brs.length:=by
 unfold nameM setU takeM
 rw[List.length_map,setK_brs]
 split
 ·rfl
 ·rw[List.length_map]
theorem move_put (h:SoundM t) (hc:CanMove t o u) (hp:u.parent=0∨∃ b∈t.brs,b.id=u.parent) :
  (o.before=0→(0:Int)∉childs (nameM t u o.parent) o.parent)∧(o.before≠0→o.before∈childs (nameM t u o.parent) o.parent)∧(childs (nameM t u o.parent) o.parent).length≤1000000:=by
 have hT:=tok_of h
 unfold nameM
 rw[setU_childs]
 unfold takeM
 rw[setK_childs _ _ _ hp]
 have h0:(0:Int)∉childs t o.parent:=fun hm=>by
  obtain⟨b,hb,_,e⟩:=(childs_mem h (stands_there hc.stands)).1 hm
  exact unit_pos (h.units b hb) e
 by_cases he:o.parent=u.parent
 ·rw[if_pos he,← he,hc.id]
  refine⟨fun _ hm=>h0 (List.mem_filter.1 hm).1,hc.before,Nat.le_trans (List.length_filter_le _ _) (hT.kids _)⟩
 ·rw[if_neg he]
  exact⟨fun _=>h0,fun hb=>(List.mem_filter.1 (hc.before hb)).1,hT.kids _⟩
end
open Classical in
noncomputable def resM (t:Tr) (o:Opn) (u:Br):Int:=if faultM t o≠0 then faultM t o else if RightT (moveT t o u) then 0 else 15
open Classical in
theorem resM_of {t:Tr} {o:Opn} {u:Br} {n:Int} (h:faultM t o=n) (hn:n≠0):resM t o u=n:=by
 unfold resM
 rw[h,if_pos hn]
theorem resM_2 {t:Tr} {o:Opn} {u:Br} (h:brFind t.brs o.unit=some u) (h2:o.parent≠0∧(brFind t.brs o.parent).isSome=false):resM t o u=7 :=
 resM_of (by unfold faultM;rw[h];simp only [];rw[if_pos h2]) b_36
theorem resM_3 {t:Tr} {o:Opn} {u:Br} (h:brFind t.brs o.unit=some u) (h2:¬ (o.parent≠0∧(brFind t.brs o.parent).isSome=false)) (h3:o.parent∈belowT t o.unit):resM t o u=17 :=
 resM_of (by unfold faultM;rw[h];simp only [];rw[if_neg h2,if_pos h3]) b_36
theorem resM_4 {t:Tr} {o:Opn} {u:Br} (h:brFind t.brs o.unit=some u) (h2:¬ (o.parent≠0∧(brFind t.brs o.parent).isSome=false)) (h3:o.parent∉belowT t o.unit) (h4:standsB t o.parent u.level=false):resM t o u=18 :=
 resM_of (by unfold faultM;rw[h];simp only [];rw[if_neg h2,if_neg h3,if_pos h4]) b_36
theorem resM_5 {t:Tr} {o:Opn} {u:Br} (h:brFind t.brs o.unit=some u) (h2:¬ (o.parent≠0∧(brFind t.brs o.parent).isSome=false)) (h3:o.parent∉belowT t o.unit) (h4:standsB t o.parent u.level=true) (h5:o.before≠0∧(o.before=o.unit∨o.before∉childs t o.parent)):resM t o u=7 :=
 resM_of (by unfold faultM;rw[h];simp only [];rw[if_neg h2,if_neg h3,if_neg (by simp[h4]),if_pos h5]) b_36
open Classical in
theorem resM_6 {t:Tr} {o:Opn} {u:Br} (h:brFind t.brs o.unit=some u) (h2:¬ (o.parent≠0∧(brFind t.brs o.parent).isSome=false)) (h3:o.parent∉belowT t o.unit) (h4:standsB t o.parent u.level=true) (h5:¬ (o.before≠0∧(o.before=o.unit∨o.before∉childs t o.parent))):faultM t o=0∧resM t o u=if RightT (moveT t o u) then 0 else 15:=by
 have e:faultM t o=0:=by unfold faultM;rw[h];simp only [];rw[if_neg h2,if_neg h3,if_neg (by simp[h4]),if_neg h5]
 refine⟨e,?_⟩
 unfold resM
 rw[e,if_neg (fun h=>h rfl)]
end Go.Proofs.YtafncfomiolmgaaGreatDoor