/- Lemmas on what the functions of the program and of the library compute: Es6, PlainCr, Es7, Es7b, PlainCm. The conditions stand at each. -/
import Derived.Test.YtdochkemaiokfaaGreatQ16
import Derived.Test.YtdochkemaiokfaaGreatQ7
import Derived.Test.YtdochkemaiokfaaGreatQ2
import Derived.Test.YtdochkemaiokfaaGreatQ9
import Derived.Test.YtdochkemaiokfaaGreatQ10
import Derived.Deep.RegionWith
set_option maxHeartbeats 16000000
set_option maxRecDepth 100000
set_option linter.all false
namespace Go.Proofs.YtdochkemaiokfaaGreat
open Go.RowKit
theorem h_78 {p:Prop} (h:p:=by
 exact(show(fW t t.brs[i].parent (aI o.unit (aB t t.brs[i].parent))).brs.length=t.brs.length from by
  rw[dH]
  split<;>simp)
):p:=h
theorem aAk {l:List Br} (h:bP l) {i:Nat} (hi:i<l.length) {n:Int} (hn:l[i].id=n):l.eraseIdx i=l.filter fun c=>!(c.id == n):=by
 induction l generalizing i with
 | nil=>simp at hi
 | cons x r ih =>
  have h':=List.pairwise_cons.1 h
  cases i with
  | zero =>
   simp only [List.getElem_cons_zero] at hn;rw[List.eraseIdx_cons_zero,List.filter_cons_of_neg (by simp[hn])];refine(List.filter_eq_self.2 fun y hy=>?_).symm;have:=h'.1 y hy;simp only [Bool.not_eq_true',beq_eq_false_iff_ne];omega
  | succ i =>
   simp only [List.getElem_cons_succ] at hn;have hi':i<r.length:=by simpa using hi
   have:=h'.1 _ (List.getElem_mem hi');rw[List.eraseIdx_cons_succ,List.filter_cons_of_pos (by simp only [Bool.not_eq_true',beq_eq_false_iff_ne];omega),ih h'.2 hi' hn]
section
variable {base E:Nat} {rv bv v':Value} {cs:List BrC} {t:Tr} {w w1:World}
theorem Ed.erase (h:Ed base E rv bv cs t w) {i:Nat} (hi:i<cs.length) (hg:w.grownBy w1 bv.ownBlock) (hv:w1.ownsRow base 66 6 v' (cs.eraseIdx i).length ((cs.eraseIdx i).flatMap BrC.cells)) :
  Ed base E rv v' (cs.eraseIdx i) ⟨t.roots,t.brs.eraseIdx i⟩ (w1.setCell ⟨E,1,none⟩ v'):=by
 have hit:i<t.brs.length:=by have:=h.len;omega
 have hl:(cs.eraseIdx i).length=(t.brs.eraseIdx i).length:=by rw[List.length_eraseIdx_of_lt hi,List.length_eraseIdx_of_lt hit,h.len]
 refine h.setBrs hg (by rw[← hl];exact hv) hl (fun j hj hj'=>?_) ?_
 ·have key:∀ m (hm:m<cs.length) (hm':m<t.brs.length),cs[m]=t.brs[m].c cs[m].kv∧pR base w1 cs[m].kv t.brs[m].kids:=fun m hm hm' =>
   ⟨(h.each m hm hm').1,iM (h.each m hm hm').2 hg (fun g hr hk=>lY (h.each m hm hm').2 h.brs rI g hk hr)⟩
  rw[List.length_eraseIdx_of_lt hi] at hj;rw[List.getElem_eraseIdx,List.getElem_eraseIdx];split
  ·exact key j _ _
  ·exact key (j+1) _ _
 ·refine List.Pairwise.sublist ?_ h.apart
  exact(List.Sublist.map _ (List.eraseIdx_sublist ..)).cons_cons _
end
theorem wI {t:Tr} {o:Opn} (h:bP t.brs) {i:Nat} (hi:i<t.brs.length) (hn:t.brs[i].id=o.unit):⟨(fW t t.brs[i].parent (aI o.unit (aB t t.brs[i].parent))).roots,(fW t t.brs[i].parent (aI o.unit (aB t t.brs[i].parent))).brs.eraseIdx i⟩=fJ t o t.brs[i]:=by
 unfold fJ;simp only [Tr.mk.injEq,true_and];have hl:=h_78;have hc:=aNn t t.brs[i].parent (aI o.unit (aB t t.brs[i].parent));have hia:=aSd h hc.symm;refine aAk hia b_53 ?_;have h1:((fW t t.brs[i].parent (aI o.unit (aB t t.brs[i].parent))).brs.map mK)[i]? = (t.brs.map mK)[i]?:=by rw[hc]
 rw[List.getElem?_map,List.getElem?_map,List.getElem?_eq_getElem b_53,List.getElem?_eq_getElem hi] at h1;have h2:=Option.some.inj h1;have h3:=congrArg Br.id h2;exact h3.trans hn
section
variable {w0:World} {E:Nat} {bv:Value} {t:Tr} {w:World}
theorem aGu {w1 w2:World} {t1 R:Tr} {rv v':Value} {cs:List BrC} {i:Nat} (h:Ed w0.heap.size E rv bv cs t1 w1) (hi:i<cs.length) (hR:⟨t1.roots,t1.brs.eraseIdx i⟩=R) (hG:aA w0 w1) (hg:w1.grownBy w2 bv.ownBlock) (hv:w2.ownsRow w0.heap.size 66 6 v' (cs.eraseIdx i).length ((cs.eraseIdx i).flatMap BrC.cells)) :
  aBo w0 E R 0 (.returned (.int .i64 0)) (w2.setCell ⟨E,1,none⟩ v')∧w2.frozen? ⟨E,1,none⟩=false∧w2.cell? ⟨E,1,none⟩=some bv:=by
 have hbx:w2.heap[E]? = some (.cells #[rv,bv] 128 (0,0)):=gV h.box hg (cR h.brs h.box aHn);refine⟨⟨rfl,(Below.grown hG hg hG.size (fun b e=>(h.brs.lt b e).1)).setCell (p:=⟨E,1,none⟩) h.le v',fun _=>⟨v',rv,cs.eraseIdx i,?_⟩⟩,by simp[World.frozen?,hbx],by simp[World.cell?,hbx]⟩;rw[← hR];exact h.erase hi hg hv
theorem aRt (h:EdB w0.heap.size E bv t w) (hG:aA w0 w) (hT:TOk t) (o:Opn) (R:Tr) (hR:∀ u,aE t.brs o.unit=some u→fJ t o u=R) :
  Calls Tryz.prog 96 #[.pointer (some ⟨E,0,none⟩),o.agg] w (aBo w0 E R (mJ t o)):=by
 have hC:=h_164;have HC:=uZ hC;have HG:=uZ hG;have KF:=uZ (fun W (hW:aA w W)=>aFy (h.grew hW) hT.asc hT.len o.unit);unfold mJ
 cases hb:aE t.brs o.unit with
 | none =>
  rw[hb] at KF;dsimp only [Option.isSome_none] at KF ⊢;obtain⟨oi,od,ok,ou,op,ob,ol,ot,om,oo,oa,on⟩:=o;unfold Opn.agg;clear h hG hT hb hC hR;dsimp only [Opn.cells] at KF HC ⊢;go_enter Tryz.func96,Tryz.ntmps96;go_wp2_with fail;refine(KF.out _ ((uX w).alloc _)).mono ?_;rintro e w1 ⟨rfl,g1⟩;exact e_20
 | some b =>
  obtain⟨i,hi,eb,ei⟩:=qJ hb;have hpos:=aLc hT.asc hi;rw[ei] at hpos;rw[hb,hpos] at KF;dsimp only [Option.isSome_some] at KF ⊢;obtain⟨rv,cs,hE⟩:=h;have hEB:EdB w0.heap.size E bv t w:=⟨rv,cs,hE⟩
  obtain⟨B,cap,hbv⟩:=hEB.at_ hi;obtain⟨-,-,-,-,-,⟨kv,c5,hkv⟩,-,-,-⟩:=hE.at_ hi hbv
  have hcap:t.brs.length≤cap∧cap≤maxLen:=by
   have h1:=hE.brs;rw[hbv] at h1;obtain⟨g',cap',he,_,_,h3⟩:=fH h1 b_53;injection he with _ _ hc;subst hc;exact⟨h3,sV h1⟩
  unfold maxLen at hcap;obtain⟨hc1,hc2⟩:=hcap;have hib:(i:Int)<(t.brs.length:Int):=by omega
  have h0z:=h_215;have cb:=hE.cells.2.1;rw[hbv] at cb;obtain⟨Ak,ck,rfl,hlk,hck,-⟩:=hkv.open_;unfold maxLen at hck;rw[eb] at c5 hlk;have C5:=uZ c5;have CB:=uZ cb;by_cases hk:b.kids=[]
  case neg =>
   rw[if_pos hk]
   have hkz:(0:Int)<(b.kids.length:Int):=by
    have:=List.length_pos_iff.2 hk;omega
   obtain⟨oi,od,ok,ou,op,ob,ol,ot,om,oo,oa,on⟩:=o;unfold Opn.agg;generalize t.brs.length=n at hib hc1 CB;clear hE hEB hG hT hb hC hR hi hbv c5 cb hkv eb ei hpos hk;dsimp only [Opn.cells] at KF HC ⊢;go_enter Tryz.func96,Tryz.ntmps96;go_wp2_with fail;refine(KF.out _ ((uX w).alloc _)).mono ?_;rintro e w1 ⟨rfl,g1⟩;have d5:=uQ (((uX w).alloc _).trans g1) C5.out;have db:=uQ (((uX w).alloc _).trans g1) CB.out;exact e_20
  case pos =>
   rw[if_neg (fun h=>h hk)];have hkl:b.kids.length=0:=by rw[hk];rfl
   rw[hkl] at C5;have hpar:t.brs[i].parent=0∨∃ c∈t.brs,c.id=t.brs[i].parent:=fA hT.sound (List.getElem_mem hi);have KT:=uZ (fun W (hW:aA w W)=>bAg (hEB.grew hW) (hG.trans hW) hT.asc hT.len hi hpar);have HREQ:=uZ ((wI hT.asc hi ei).trans (show fJ t o t.brs[i]=R from by rw[eb];exact hR b hb));rw[ei] at KT;have hcl:cs.length=t.brs.length:=hE.len;have hl1:=h_78;generalize fW t t.brs[i].parent (aI o.unit (aB t t.brs[i].parent))=t1 at KT HREQ hl1;have HL1:=uZ hl1;have HTL:=uZ hT.len;have hbv2:=uZ hbv;obtain⟨oi,od,ok,ou,op,ob,ol,ot,om,oo,oa,on⟩:=o;unfold Opn.agg;have hi2:=hi;generalize t.brs.length=n at hib hc1 CB HL1 HTL hbv2 hi2;clear hE hEB hG hT hb hC hR hbv c5 cb hkv eb ei hpos hk hpar hcl hl1 hlk hkl hi;dsimp only [Opn.cells] at KF HC KT ⊢;go_enter Tryz.func96,Tryz.ntmps96;go_wp2_with fail;refine(KF.out _ ((uX w).alloc _)).mono ?_;rintro e w1 ⟨rfl,g1⟩;obtain⟨o3,-,-,-,-,-⟩:=HC.out w1 g1;have HG1:=h_221;have d5:=uQ HG1.out C5.out;have db:=uQ HG1.out CB.out;clear g1;dsimp only;go_wp2_with fail;refine(KT.out _ HG1.out).mono ?_;rintro e w2 ⟨rfl,hE2,hG2⟩;obtain⟨rv2,cs2,hE2⟩:=hE2;have e1:=hE2.cells.2.1;have hcs:cs2.length=n:=hE2.len.trans HL1.out;have hdel:=aWj w0.heap.size cs2 i b_53 bv w2 (by rw[hE2.len];exact hE2.brs) hE2.one (by rw[hcs];exact HTL.out);have HE2:=uZ hE2;have HDEL:=uZ hdel;have HG2:=uZ hG2;have HCS:=uZ hcs;clear d5 db o3 hE2 hdel hG2 hcs;rw[hbv2.out] at e1;dsimp only;go_wp2_with fail;rw[← hbv2.out];refine HDEL.out.mono ?_;rintro e w3 ⟨v3,rfl,own3,hgr3,-⟩;obtain⟨A3,c3,rfl⟩:=aJ own3;obtain⟨hd,hz,hcz⟩:=aGu HE2.out (by rw[HCS.out];exact hi2) HREQ.out HG2.out hgr3 own3;have HDD:=uZ hd;clear hd own3 hgr3 e1;dsimp only;go_wp2;go_ret;exact HDD.out
end
theorem jF {t:Tr} (h:bG t):TOk t:=by
 have hl:∀ {ks:List Int} {p:Int},fK t.brs ks p→ks.length≤256:=by
  intro ks p hk
  have h1:=List.Nodup.length_le_of_subset (l₂:=t.brs.map Br.id) hk.1 (fun x hx=>by
   obtain⟨b,hb,_,e⟩:=(hk.2 x).1 hx
   exact List.mem_map.2 ⟨b,hb,e⟩)
  rw[List.length_map] at h1;exact Nat.le_trans h1 h.len
 have h0:=h.len;refine⟨h,⟨by omega,fun i hi=>?_⟩,?_⟩
 ·have:=hl (h.kids t.brs[i] (List.getElem_mem hi))
  omega
 ·have:=hl h.roots
  omega
theorem aMo (b:Br):∀ l:List Br,lI b l=l.take (aHg l b.id)++[b]++l.drop (aHg l b.id)
 | []=>rfl
 | x::r=>by
  have ih:=aMo b r;unfold lI aHg eH;by_cases h:x.id<b.id
  ·have hp:decide (cV b.id x<0)=true:=by
    rw[decide_eq_true_eq,jB];exact h
   rw[if_pos h,List.takeWhile_cons,if_pos hp,List.length_cons,List.take_succ_cons,List.drop_succ_cons,ih];rfl
  ·have hp:¬ decide (cV b.id x<0)=true:=by
    rw[decide_eq_true_eq,jB];exact h
   rw[if_neg h,List.takeWhile_cons,if_neg hp];rfl
theorem aZf (l:List Br) (id:Int):aHg l id≤l.length:=by
 unfold aHg eH;exact(List.takeWhile_sublist _).length_le
def gI (o:Opn):Br:=⟨o.unit,o.parent,o.level,o.title,o.mark,[]⟩
theorem pJ {t:Tr} {o:Opn} (h:bG t) (hc:iC t o):aB ⟨t.roots,lI (gI o) t.brs⟩ o.parent=aB t o.parent∧(o.parent=0∨∃ b∈lI (gI o) t.brs,b.id=o.parent)∧o.parent≠o.unit:=by
 have hu0:o.unit≠0:=cC hc.unit;have hp:=gR hc.stands
 have hne:o.parent≠o.unit:=by
  rcases hp with e|⟨b,hb,e⟩
  ·rw[e]
   exact fun e=>hu0 e.symm
  ·rw[← e]
   exact hc.new b hb
 refine⟨?_,?_,hne⟩
 ·rw[tK h.asc (gI o) hc.new hu0]
  exact if_neg hne
 ·rcases hp with e|⟨b,hb,e⟩
  ·exact .inl e
  ·exact .inr ⟨b,(dU _ _ _).2 (.inr hb),e⟩
theorem aNj {t:Tr} {o:Opn} (h:bG t) (hc:iC t o):fW ⟨t.roots,lI (gI o) t.brs⟩ o.parent (iL o.unit o.before (aB ⟨t.roots,lI (gI o) t.brs⟩ o.parent))=fF t o:=by
 obtain⟨h1,-,hne⟩:=pJ h hc;rw[h1];unfold fF fW;by_cases h0:o.parent=0
 ·rw[if_pos h0,if_pos h0]
  rfl
 ·rw[if_neg h0,if_neg h0]
  simp only [Tr.mk.injEq,true_and];have hg:∀ b:Br,(if b.id=o.parent then { b with kids:=iL o.unit o.before (aB t o.parent) } else b).id=b.id:=fun b=>by split<;>rfl
  rw[aFe _ hg];have:(if (gI o).id=o.parent then { gI o with kids:=iL o.unit o.before (aB t o.parent) } else gI o)=gI o:=if_neg (fun e=>hne e.symm);rw[this];rfl
theorem aIf {t:Tr} {o:Opn} (h:bG t) (hc:iC t o):bP (lI (gI o) t.brs):=sA (gI o) t.brs h.asc hc.new
theorem aIe {t:Tr} {o:Opn} (h:bG t) (hc:iC t o):(o.before=0→(0:Int)∉aB t o.parent)∧(o.before≠0→o.before∈aB t o.parent):=by
 refine⟨fun _ hm=>?_,hc.before⟩;obtain⟨b,hb,_,e⟩:=(dY h (gR hc.stands)).1 hm;exact cC (h.units b hb) e
open Classical in
noncomputable def yM (t:Tr) (o:Opn):Int:=if eK t o≠0 then eK t o else if aM (fF t o) then 0 else 15
theorem aYu {t:Tr} {o:Opn} (h:(aE t.brs o.unit).isSome=true):yM t o=6:=by
 have:eK t o=6:=by unfold eK;rw[if_pos h]
 unfold yM;rw[this,if_pos b_52]
theorem aYt {t:Tr} {o:Opn} (h:(aE t.brs o.unit).isSome=false) (h2:o.parent≠0∧(aE t.brs o.parent).isSome=false):yM t o=7:=by
 have:eK t o=7:=by unfold eK;rw[if_neg (by simp[h]),if_pos h2]
 unfold yM;rw[this,if_pos b_52]
theorem aYs {t:Tr} {o:Opn} (h:(aE t.brs o.unit).isSome=false) (h2:¬ (o.parent≠0∧(aE t.brs o.parent).isSome=false)) (h3:dC t o.parent o.level=false):yM t o=18:=by
 have:eK t o=18:=by unfold eK;rw[if_neg (by simp[h]),if_neg h2,if_pos h3]
 unfold yM;rw[this,if_pos b_52]
theorem aYr {t:Tr} {o:Opn} (h:(aE t.brs o.unit).isSome=false) (h2:¬ (o.parent≠0∧(aE t.brs o.parent).isSome=false)) (h3:dC t o.parent o.level=true) (h4:o.before≠0∧o.before∉aB t o.parent):yM t o=7:=by
 have:eK t o=7:=by unfold eK;rw[if_neg (by simp[h]),if_neg h2,if_neg (by simp[h3]),if_pos h4]
 unfold yM;rw[this,if_pos b_52]
theorem aYq {t:Tr} {o:Opn} (h:(aE t.brs o.unit).isSome=false) (h2:¬ (o.parent≠0∧(aE t.brs o.parent).isSome=false)) (h3:dC t o.parent o.level=true) (h4:¬ (o.before≠0∧o.before∉aB t o.parent)) (h5:gF t o.mark 0=true):yM t o=19:=by
 have:eK t o=19:=by unfold eK;rw[if_neg (by simp[h]),if_neg h2,if_neg (by simp[h3]),if_neg h4,if_pos h5]
 unfold yM;rw[this,if_pos b_52]
theorem aYp {t:Tr} {o:Opn} (h:(aE t.brs o.unit).isSome=false) (h2:¬ (o.parent≠0∧(aE t.brs o.parent).isSome=false)) (h3:dC t o.parent o.level=true) (h4:¬ (o.before≠0∧o.before∉aB t o.parent)) (h5:gF t o.mark 0=false) (h6:256≤t.brs.length):yM t o=8:=by
 have:eK t o=8:=by unfold eK;rw[if_neg (by simp[h]),if_neg h2,if_neg (by simp[h3]),if_neg h4,if_neg (by simp[h5]),if_pos h6]
 unfold yM;rw[this,if_pos b_52]
open Classical in
theorem aTd {t:Tr} {o:Opn} (h:(aE t.brs o.unit).isSome=false) (h2:¬ (o.parent≠0∧(aE t.brs o.parent).isSome=false)) (h3:dC t o.parent o.level=true) (h4:¬ (o.before≠0∧o.before∉aB t o.parent)) (h5:gF t o.mark 0=false) (h6:¬ 256≤t.brs.length):eK t o=0∧yM t o=if aM (fF t o) then 0 else 15:=by
 have:eK t o=0:=by unfold eK;rw[if_neg (by simp[h]),if_neg h2,if_neg (by simp[h3]),if_neg h4,if_neg (by simp[h5]),if_neg h6]
 refine⟨this,?_⟩;unfold yM;rw[this,if_neg (fun h=>h rfl)]
section
variable {w0:World} {E:Nat} {bv:Value} {t:Tr} {w:World}
theorem aAn {base:Nat} (h:EdB base E bv t w) (hT:TOk t) (id:Int):∃ A:Option Addr,A.isSome=(aE t.brs id).isSome∧∀ W,aA w W→Calls Tryz.prog 129 #[.pointer (some ⟨E,0,none⟩),.int .i64 id] W fun e w'=>e=.returned (.pointer A)∧aA W w':=by
 cases hb:aE t.brs id with
 | none=>exact⟨none,rfl,fun W hW=>nE (h.grew hW) hT.asc hT.len hb⟩
 | some b =>
  obtain⟨i,hi,-,ei⟩:=qJ hb;obtain⟨B,cap,hbv⟩:=h.at_ hi;refine⟨some ⟨B,i*6,none⟩,rfl,fun W hW=>?_⟩;have:=iO (h.grew hW) hT.asc hT.len hi hbv;rw[ei] at this;exact this
theorem aHu {w1 w2:World} {t1:Tr} {rv v':Value} {cs:List BrC} {k:Nat} {b:Br} (h:Ed w0.heap.size E rv bv cs t w1) (hk:k≤cs.length) (hb:b.kids=[]) (hR:⟨t.roots,t.brs.take k++[b]++t.brs.drop k⟩=t1) (hG:aA w0 w1) (hg:w1.grownBy w2 bv.ownBlock)
  (hv:w2.ownsRow w0.heap.size 66 6 v' (cs.length+1) ((cs.take k++[b.c (.slice none 0 0)]++cs.drop k).flatMap BrC.cells)) :
  (∃ bv',EdB w0.heap.size E bv' t1 (w2.setCell ⟨E,1,none⟩ v'))∧aA w0 (w2.setCell ⟨E,1,none⟩ v')∧w2.frozen? ⟨E,1,none⟩=false∧w2.cell? ⟨E,1,none⟩=some bv:=by
 have hbx:w2.heap[E]? = some (.cells #[rv,bv] 128 (0,0)):=gV h.box hg (cR h.brs h.box aHn);refine⟨⟨v',rv,cs.take k++[b.c (.slice none 0 0)]++cs.drop k,?_⟩,(Below.grown hG hg hG.size (fun b e=>(h.brs.lt b e).1)).setCell (p:=⟨E,1,none⟩) h.le v',by simp[World.frozen?,hbx],by simp[World.cell?,hbx]⟩;rw[← hR];have hlen:=h.len;have hl:(cs.take k++[b.c (.slice none 0 0)]++cs.drop k).length=(t.brs.take k++[b]++t.brs.drop k).length:=by simp[hlen]
 have hl2:(t.brs.take k++[b]++t.brs.drop k).length=cs.length+1:=by simp only [List.length_append,List.length_take,List.length_drop,List.length_cons,List.length_nil];omega
 have key:∀ m (hm:m<cs.length) (hm':m<t.brs.length),cs[m]=t.brs[m].c cs[m].kv∧pR w0.heap.size w2 cs[m].kv t.brs[m].kids:=fun m hm hm' =>
  ⟨(h.each m hm hm').1,iM (h.each m hm hm').2 hg (fun g hr hk=>lY (h.each m hm hm').2 h.brs rI g hk hr)⟩
 refine h.setBrs hg (by rw[hl2];exact hv) hl (fun j hj hj'=>?_) ?_
 ·rw[hl,hl2] at hj
  rcases Nat.lt_trichotomy j k with hjk|hjk|hjk
  ·have e1:(cs.take k++[b.c (.slice none 0 0)]++cs.drop k)[j]? = cs[j]?:=by
    rw[List.append_assoc,List.getElem?_append_left b_41,List.getElem?_take,if_pos hjk]
   have e2:(t.brs.take k++[b]++t.brs.drop k)[j]? = t.brs[j]?:=by
    rw[List.append_assoc,List.getElem?_append_left b_41,List.getElem?_take,if_pos hjk]
   rw[List.getElem?_eq_getElem b_53,List.getElem?_eq_getElem b_53] at e1 e2;rw[Option.some.inj e1,Option.some.inj e2];exact key j b_53 b_53
  ·subst hjk
   have e1:(cs.take j++[b.c (.slice none 0 0)]++cs.drop j)[j]? = some (b.c (.slice none 0 0)):=by
    rw[List.append_assoc,List.getElem?_append_right b_41,List.length_take,Nat.min_eq_left hk,Nat.sub_self];rfl
   have e2:(t.brs.take j++[b]++t.brs.drop j)[j]? = some b:=by
    rw[List.append_assoc,List.getElem?_append_right b_41,List.length_take,Nat.min_eq_left b_53,Nat.sub_self];rfl
   rw[List.getElem?_eq_getElem b_53] at e1 e2;rw[Option.some.inj e1,Option.some.inj e2];refine⟨rfl,?_⟩;show pR w0.heap.size w2 (.slice none 0 0) b.kids;rw[hb];exact World.ownsRow_nil _ _ _ _
  ·have e1:(cs.take k++[b.c (.slice none 0 0)]++cs.drop k)[j]? = cs[j-1]?:=by
    rw[List.getElem?_append_right b_50,List.getElem?_drop]
    congr 1
    simp only [List.length_append,List.length_take,List.length_cons,List.length_nil];omega
   have e2:(t.brs.take k++[b]++t.brs.drop k)[j]? = t.brs[j-1]?:=by
    rw[List.getElem?_append_right b_50,List.getElem?_drop]
    congr 1
    simp only [List.length_append,List.length_take,List.length_cons,List.length_nil];omega
   rw[List.getElem?_eq_getElem b_53,List.getElem?_eq_getElem b_53] at e1 e2;rw[Option.some.inj e1,Option.some.inj e2];exact key (j-1) b_53 b_53
 ·obtain⟨h1,h2⟩:=List.pairwise_cons.1 h.apart
  have hmap:(cs.take k++[b.c (.slice none 0 0)]++cs.drop k).map BrC.kv=(cs.map BrC.kv).take k++[.slice none 0 0]++(cs.map BrC.kv).drop k:=by
   simp[List.map_take,List.map_drop,Br.c]
  rw[hmap];have hsplit:(cs.map BrC.kv)=(cs.map BrC.kv).take k++(cs.map BrC.kv).drop k:=(List.take_append_drop _ _).symm;have hnone:∀ g,Value.ownBlock (.slice none 0 0)≠some g:=fun g e=>by simp[Value.ownBlock] at e
  refine List.pairwise_cons.2 ⟨fun v hv g hg'=>?_,?_⟩
  ·simp only [List.mem_append,List.mem_singleton] at hv
   rcases hv with (hv|hv)|hv
   ·exact h1 v (List.mem_of_mem_take hv) g hg'
   ·rw[hv];exact hnone g
   ·exact h1 v (List.mem_of_mem_drop hv) g hg'
  ·rw[hsplit] at h2
   obtain⟨p1,p2,p3⟩:=List.pairwise_append.1 h2;refine List.pairwise_append.2 ⟨List.pairwise_append.2 ⟨p1,List.pairwise_singleton _ _,fun a _ c hc g _=>?_⟩,p2,fun a ha c hc g hga=>?_⟩
   ·rw[List.mem_singleton.1 hc];exact hnone g
   ·rcases List.mem_append.1 ha with ha|ha
    ·exact p3 a ha c hc g hga
    ·rw[List.mem_singleton.1 ha] at hga
     exact absurd hga (hnone g)
end
section
variable {w0:World} {E:Nat} {bv:Value} {t:Tr} {o:Opn}
theorem pL {W0:World} (hS:bG t) (h:EdB w0.heap.size E bv t W0) (hG:aA w0 W0) (W:World) (hW:aA W0 W) (hv:W.heap[W0.heap.size]? = some (.cells ((gI o).c (.slice none 0 0)).cells.toArray 66 (0,0))) :
  Calls Tryz.prog 133 #[bv,.int .i64 (aHg t.brs o.unit),.slice (some ⟨W0.heap.size,0,none⟩) 1 1] W fun e w7=>∃ A7 n7 c7,e=.returned (.slice A7 n7 c7)∧(∃ bv',EdB w0.heap.size E bv' ⟨t.roots,lI (gI o) t.brs⟩ (w7.setCell ⟨E,1,none⟩ (.slice A7 n7 c7)))∧aA w0 (w7.setCell ⟨E,1,none⟩ (.slice A7 n7 c7))∧w7.frozen? ⟨E,1,none⟩=false∧w7.cell? ⟨E,1,none⟩=some bv∧∀ p x,W.cell? p=some x→some p.block≠bv.ownBlock→w7.cell? p=some x:=by
 obtain⟨rv,cs,hE⟩:=h;have hT:=jF hS;have hlen:=hE.len;have hpl:=aZf t.brs o.unit;have hEW:=hE.grew hW;refine(aVs w0 cs ((gI o).c (.slice none 0 0)) (aHg t.brs o.unit) W0.heap.size bv W (by rw[hlen];exact hEW.brs) (hG.trans hW) hE.one rfl b_53 (by rw[hlen];exact hT.len) hv (fun e=>by have:=(hE.brs.lt _ e.symm).2;omega)).mono ?_;rintro e w7 ⟨v7,rfl,own7,hgr7,-⟩;obtain⟨A7,c7,rfl⟩:=aJ own7;obtain⟨h1,h2,h3,h4⟩:=aHu (t1:=⟨t.roots,lI (gI o) t.brs⟩) hEW b_53 rfl (by rw[aMo (gI o) t.brs];rfl) (hG.trans hW) hgr7 own7;exact⟨A7,_,c7,rfl,h1,h2,h3,h4,fun p x hp hne=>hgr7.cell hp hne⟩
theorem pK {bv':Value} {W:World} (hS:bG t) (hc:iC t o) (h8:EdB w0.heap.size E bv' ⟨t.roots,lI (gI o) t.brs⟩ W) (hG8:aA w0 W) :
  Calls Tryz.prog 134 #[.pointer (some ⟨E,0,none⟩),.int .i64 o.unit,.int .i64 o.parent,.int .i64 o.before] W fun e w'=>e=.returned (.tuple #[])∧EdB w0.heap.size E bv' (fF t o) w'∧aA w0 w':=by
 obtain⟨c1,c2,-⟩:=pJ hS hc;obtain⟨p1,p2⟩:=aIe hS hc;have hT:=jF hS
 have hl:(lI (gI o) t.brs).length≤1000000:=by
  have:=hc.room;rw[xJ];omega
 have:=bAh h8 hG8 (aIf hS hc) hl (p:=o.parent) c2 o.unit o.before (by rw[c1];exact p1) (by rw[c1];exact p2) (by rw[c1];exact hT.kids _);rw[aNj hS hc] at this;exact this
open Classical in
theorem lB {bv':Value} {W:World} (hS:bG t) (hc:iC t o) (h9:EdB w0.heap.size E bv' (fF t o) W) (hEnv:Env W) :
  Calls Tryz.prog 135 #[.pointer (some ⟨E,0,none⟩)] W fun e w'=>e=.returned (.int .i64 (if aM (fF t o) then 0 else 15))∧aA W w':=aNf h9 (jF (rB hS hc)) hEnv
end
def jZ (t:Tr) (u:Br):Tr:=fW t u.parent (aI u.id (aB t u.parent))
def oZ (t:Tr) (u:Br) (p:Int):Tr:=jX (jZ t u) u.id fun b=>{ b with parent:=p }
theorem sL (t:Tr) (n p q:Int):aB (jX t n fun b=>{ b with parent:=p }) q=aB t q:=by
 unfold aB;by_cases h0:q=0
 ·rw[if_pos h0,if_pos h0]
  rfl
 ·rw[if_neg h0,if_neg h0]
  have e:aE (jX t n fun b=>{ b with parent:=p }).brs q=(aE t.brs q).map fun b=>if b.id=n then { b with parent:=p } else b:=pF _ (fun b=>by split<;>rfl) q
  rw[e]
  cases aE t.brs q with
  | none=>rfl
  | some b =>
   show(if b.id=n then { b with parent:=p } else b).kids=b.kids;split<;>rfl
theorem aJw (t:Tr) (n p q:Int) (ks:List Int):fW (jX t n fun b=>{ b with parent:=p }) q ks=jX (fW t q ks) n fun b=>{ b with parent:=p }:=by
 by_cases h0:q=0
 ·unfold fW jX
  rw[if_pos h0,if_pos h0]
 ·unfold fW jX
  rw[if_neg h0,if_neg h0];show Tr.mk _ _=Tr.mk _ _;rw[List.map_map,List.map_map]
  congr 1
  refine List.map_congr_left fun b _=>?_
  obtain⟨i,pa,lv,ti,mk,kd⟩:=b;dsimp only [Function.comp_apply];by_cases h1:i=n
  ·subst h1
   by_cases h2:i=q
   ·subst h2
    simp
   ·simp[h2]
  ·by_cases h2:i=q
   ·subst h2
    simp[h1]
   ·simp[h1,h2]
section
variable {t:Tr} {o:Opn} {u:Br}
theorem aQs (q:Int):(∃ b∈(oZ t u o.parent).brs,b.id=q)↔∃ b∈t.brs,b.id=q:=by
 rw[← oU t u.parent (aI u.id (aB t u.parent)) q];unfold oZ jX jZ;constructor
 ·rintro ⟨b,hb,e⟩
  obtain⟨c,hm,rfl⟩:=List.mem_map.1 hb;refine⟨c,hm,?_⟩;rw[← e];split<;>rfl
 ·rintro ⟨b,hb,e⟩
  refine⟨_,List.mem_map.2 ⟨b,hb,rfl⟩,?_⟩;rw[← e];split<;>rfl
theorem aVh (hc:qP t o u):fW (oZ t u o.parent) o.parent (iL o.unit o.before (aB (oZ t u o.parent) o.parent))=jM t o u:=by
 unfold oZ jM jZ;rw[aJw,sL,hc.id]
theorem aQt (h:bG t):bP (oZ t u o.parent).brs:=by
 have h1:bP (jZ t u).brs:=by
  unfold jZ;rw[dH];split
  ·exact h.asc
  ·exact List.Pairwise.map _ (fun a b hab=>by unfold jD;(repeat' split)<;>exact hab) h.asc
 exact List.Pairwise.map _ (fun a b hab=>by (repeat' split)<;>exact hab) h1
theorem aQr:(oZ t u o.parent).brs.length=t.brs.length:=by
 unfold oZ jX jZ;rw[List.length_map,dH];split
 ·rfl
 ·rw[List.length_map]
theorem aQq (h:bG t) (hc:qP t o u) (hp:u.parent=0∨∃ b∈t.brs,b.id=u.parent) :
  (o.before=0→(0:Int)∉aB (oZ t u o.parent) o.parent)∧(o.before≠0→o.before∈aB (oZ t u o.parent) o.parent)∧(aB (oZ t u o.parent) o.parent).length≤1000000:=by
 have hT:=jF h;unfold oZ;rw[sL];unfold jZ;rw[gH _ _ _ hp]
 have h0:(0:Int)∉aB t o.parent:=fun hm=>by
  obtain⟨b,hb,_,e⟩:=(dY h (gR hc.stands)).1 hm;exact cC (h.units b hb) e
 by_cases he:o.parent=u.parent
 ·rw[if_pos he,← he,hc.id]
  refine⟨fun _ hm=>h0 (List.mem_filter.1 hm).1,hc.before,Nat.le_trans (List.length_filter_le _ _) (hT.kids _)⟩
 ·rw[if_neg he]
  exact⟨fun _=>h0,fun hb=>(List.mem_filter.1 (hc.before hb)).1,hT.kids _⟩
end
open Classical in
noncomputable def aIy (t:Tr) (o:Opn) (u:Br):Int:=if eI t o≠0 then eI t o else if aM (jM t o u) then 0 else 15
open Classical in
theorem wH {t:Tr} {o:Opn} {u:Br} {n:Int} (h:eI t o=n) (hn:n≠0):aIy t o u=n:=by
 unfold aIy;rw[h,if_pos hn]
theorem aYo {t:Tr} {o:Opn} {u:Br} (h:aE t.brs o.unit=some u) (h2:o.parent≠0∧(aE t.brs o.parent).isSome=false):aIy t o u=7 :=
 wH (by unfold eI;rw[h];simp only [];rw[if_pos h2]) b_52
theorem aYn {t:Tr} {o:Opn} {u:Br} (h:aE t.brs o.unit=some u) (h2:¬ (o.parent≠0∧(aE t.brs o.parent).isSome=false)) (h3:o.parent∈bA t o.unit):aIy t o u=17 :=
 wH (by unfold eI;rw[h];simp only [];rw[if_neg h2,if_pos h3]) b_52
theorem aYm {t:Tr} {o:Opn} {u:Br} (h:aE t.brs o.unit=some u) (h2:¬ (o.parent≠0∧(aE t.brs o.parent).isSome=false)) (h3:o.parent∉bA t o.unit) (h4:dC t o.parent u.level=false):aIy t o u=18 :=
 wH (by unfold eI;rw[h];simp only [];rw[if_neg h2,if_neg h3,if_pos h4]) b_52
theorem aYl {t:Tr} {o:Opn} {u:Br} (h:aE t.brs o.unit=some u) (h2:¬ (o.parent≠0∧(aE t.brs o.parent).isSome=false)) (h3:o.parent∉bA t o.unit) (h4:dC t o.parent u.level=true) (h5:o.before≠0∧(o.before=o.unit∨o.before∉aB t o.parent)):aIy t o u=7 :=
 wH (by unfold eI;rw[h];simp only [];rw[if_neg h2,if_neg h3,if_neg (by simp[h4]),if_pos h5]) b_52
open Classical in
theorem aTc {t:Tr} {o:Opn} {u:Br} (h:aE t.brs o.unit=some u) (h2:¬ (o.parent≠0∧(aE t.brs o.parent).isSome=false)) (h3:o.parent∉bA t o.unit) (h4:dC t o.parent u.level=true) (h5:¬ (o.before≠0∧(o.before=o.unit∨o.before∉aB t o.parent))):eI t o=0∧aIy t o u=if aM (jM t o u) then 0 else 15:=by
 have e:eI t o=0:=by unfold eI;rw[h];simp only [];rw[if_neg h2,if_neg h3,if_neg (by simp[h4]),if_neg h5]
 refine⟨e,?_⟩;unfold aIy;rw[e,if_neg (fun h=>h rfl)]
end Go.Proofs.YtdochkemaiokfaaGreat



