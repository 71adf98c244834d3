/- Lemmas on what the functions of the program and of the library compute: Es9a, Es9b. The conditions stand at each. -/
import Derived.Test.YtdochkemaiokfaaGreatQ14
import Derived.Test.YtdochkemaiokfaaGreatQ8
/- The steps of the editor's move: the list of all below; the store of the parent; the unit is put; the depth. The conditions: the tree is right; the library's own variables hold what they must. -/
namespace Go.Proofs.YtdochkemaiokfaaGreat
open Go.RowKit
theorem belowR_unit {t:Tr} (h:RightT t) {n:Int} {u:Br} (hb:brFind t.brs n=some u):belowR t n=(belowT t n,0):=by
 have e:topR t.brs n=0:=by
  unfold topR knownF
  split
  ·rfl
  ·rw[if_pos (by simp[hb])]
 unfold belowR
 rw[if_pos h,if_pos e]
theorem take_asc {t:Tr} {u:Br} (h:SoundM t):idsAsc (takeM t u).brs:=by
 unfold takeM
 rw[setK_brs]
 split
 ·exact h.asc
 ·exact List.Pairwise.map _ (fun a b hab=>by unfold kidG;(repeat' split)<;>exact hab) h.asc
section
variable {w0:World} {E:Nat} {bv:Value} {t:Tr} {o:Opn} {u:Br} {W:World}
theorem moveBelow (h:EdB w0.heap.size E bv t W) (hS:SoundM t) (hR:RightT t) (hEnv:Env W) (hb:brFind t.brs o.unit=some u) {rv:Value} (h0:W.cell? ⟨E,0,none⟩=some rv) :
  Calls Tryz.prog 136 #[.agg #[rv,bv],.int .i64 o.unit] W fun e w'=>∃ v,e=.returned (.tuple #[v,.int .i64 0])∧SlI w' v (belowT t o.unit)∧Grew W w':=by
 obtain⟨rv',hr,hbr,c0,-,-,-⟩:=h.reads
 obtain rfl:rv'=rv:=Option.some.inj (c0.symm.trans h0)
 have hT:=tok_of hS
 refine(tBelowX t.roots t.brs o.unit rv' bv W hEnv hr hbr hT.few hT.roots).mono fun e w' hm=>?_
 obtain⟨v,e1,e2,e3⟩:=RetMine.is_ hm
 have e4:belowR ⟨t.roots,t.brs⟩ o.unit=(belowT t o.unit,0):=belowR_unit (t:=t) hR hb
 rw[e4] at e1 e2
 exact⟨v,e1,e2,e3⟩
theorem moveStore (h:EdB w0.heap.size E bv (takeM t u) W) (hG:Grew w0 W) (hS:SoundM t) {i:Nat} {B cap:Nat} (hi:i<(takeM t u).brs.length) (hbv:bv=.slice (some ⟨B,0,none⟩) (takeM t u).brs.length cap) (hn:(takeM t u).brs[i].id=u.id) (p:Int) :
  EdB w0.heap.size E bv (nameM t u p) (W.setCell ⟨B,i*6+1,none⟩ (.int .i64 p))∧Grew w0 (W.setCell ⟨B,i*6+1,none⟩ (.int .i64 p))∧W.frozen? ⟨B,i*6+1,none⟩=false∧∃ v,W.cell? ⟨B,i*6+1,none⟩=some v:=by
 obtain⟨rv,cs,hE⟩:=h
 obtain⟨-,c1,-,-,-,-,hz,hlo,-⟩:=hE.at_ hi hbv
 have hf:=hE.field (take_asc hS) hi (j:=1) (by omega) hbv (fun b=>{ b with parent:=p }) (.int .i64 p) (fun _=>rfl) rfl
 rw[hn] at hf
 exact⟨hf,hG.setCell (p:=⟨B,i*6+1,none⟩) hlo _,hz _,_,c1⟩
theorem movePut (hS:SoundM t) (hc:CanMove t o u) (hp:u.parent=0∨∃ b∈t.brs,b.id=u.parent) (h:EdB w0.heap.size E bv (nameM t u o.parent) W) (hG:Grew w0 W) :
  Calls Tryz.prog 134 #[.pointer (some ⟨E,0,none⟩),.int .i64 o.unit,.int .i64 o.parent,.int .i64 o.before] W fun e w'=>e=.returned (.tuple #[])∧EdB w0.heap.size E bv (moveT t o u) w'∧Grew w0 w':=by
 obtain⟨p1,p2,p3⟩:=move_put hS hc hp
 have hT:=tok_of hS
 have:=edPut h hG (move_asc hS) (by rw[move_len];exact hT.len) (p:=o.parent) ((stands_there hc.stands).imp_right fun hx=>(move_ids o.parent).2 hx) o.unit o.before p1 p2 p3
 rw[move_eq hc] at this
 exact this
open Classical in
theorem moveLimit (hS:SoundM t) (hc:CanMove t o u) (h:EdB w0.heap.size E bv (moveT t o u) W) (hEnv:Env W) :
  Calls Tryz.prog 135 #[.pointer (some ⟨E,0,none⟩)] W fun e w'=>e=.returned (.int .i64 (if RightT (moveT t o u) then 0 else 15))∧Grew W w':=edLimit h (tok_of (move_sound hS hc)) hEnv
end
end Go.Proofs.YtdochkemaiokfaaGreat
/- The editor's take at a later world: what lies in newer blocks stays. The conditions: the units ascend; the lists are short. -/
namespace Go.Proofs.YtdochkemaiokfaaGreat
open Go.RowKit
section
variable {w0:World} {E:Nat} {bv:Value} {t:Tr} {w:World}
set_option maxHeartbeats 4000000 in
theorem edTakeAt (h:EdB w0.heap.size E bv t w) (hG:Grew w0 w) (WW:World) (hWW:Grew w WW) (hasc:idsAsc t.brs) (hlen:t.brs.length≤1000000) {i:Nat} (hi:i<t.brs.length) (hp:t.brs[i].parent=0∨∃ b∈t.brs,b.id=t.brs[i].parent) :
  Calls Tryz.prog 137 #[.pointer (some ⟨E,0,none⟩),.int .i64 t.brs[i].id] WW fun e w'=>e=.returned (.tuple #[])∧EdB w0.heap.size E bv (setK t t.brs[i].parent (withoutF t.brs[i].id (childs t t.brs[i].parent))) w'∧Grew w0 w'∧∀ p x,WW.cell? p=some x→w.heap.size≤p.block→w'.cell? p=some x:=by
 have HWW:=Lib.hid hWW
 obtain⟨rv,cs,hE⟩:=h
 obtain⟨B,cap,hbv,-,-,-⟩:=own_form hE.brs (by omega)
 obtain⟨-,c1,-⟩:=hE.at_ hi hbv
 have hEw:EdB w0.heap.size E bv t w:=⟨rv,cs,hE⟩
 have KB:=Lib.hid (fun W (hW:Grew w W)=>edBranch (hEw.grew hW) hasc hlen hi hbv)
 obtain⟨ab,ao,kv,hkat,hK⟩:=edKidsAt hEw hasc hlen hp
 have KK:=Lib.hid hK
 have HKAT:=Lib.hid hkat
 have HG:=Lib.hid hG
 have C1:=Lib.hid c1
 unfold withoutF
 generalize hR:setK t t.brs[i].parent ((childs t t.brs[i].parent).filter fun x=>!(x == t.brs[i].id))=R
 have HR:=Lib.hid hR
 clear hR
 generalize t.brs[i].id=n at KB HR ⊢
 generalize t.brs[i].parent=p at KK C1 HKAT HR ⊢
 clear hE hEw hG hWW hasc hlen hp c1 hbv hkat hK
 go_enter Tryz.func137,Tryz.ntmps137
 go_wp2_with fail
 refine(KB.out _ (HWW.out.trans ((Grew.refl WW).alloc _))).mono ?_
 rintro e w1 ⟨rfl,g1⟩
 have b0:=new_cell (cs:=[.int .i64 n]) g1 0 _ rfl
 have HG1:=Lib.hid (HWW.out.trans (((Grew.refl WW).alloc _).trans g1))
 have HW1:=Lib.hid (((Grew.refl WW).alloc _).trans g1)
 have c1:=keep_cell HG1.out C1.out
 clear g1
 dsimp only
 go_wp2_with fail
 refine(KK.out _ HG1.out).mono ?_
 rintro e w2 ⟨rfl,g2⟩
 have hk2:=HKAT.out.grew (HG1.out.trans g2)
 have b2:=keep_cell g2 b0
 have d1:=hk2.cell
 have HKAT2:=Lib.hid hk2
 have HG2:=Lib.hid (HG.out.trans (HG1.out.trans g2))
 have HW2:=Lib.hid (HW1.out.trans g2)
 have hbox:some WW.heap.size≠kv.ownBlock:=fun e=>by
  have:=(HKAT.out.own.lt _ e.symm).2
  have:=HWW.out.size
  omega
 have HLK:=Lib.hid (fun b (e:kv.ownBlock=some b)=>(HKAT.out.own.lt b e).2)
 have HLA:=Lib.hid HKAT.out.lt
 have hdel:=deleteFuncG (childs t p) (fun x=>x == n) 191 #[.pointer (some ⟨WW.heap.size,0,none⟩)] enters_edTake1 w0.heap.size kv w2 HG2.out.size hk2.own (fun W x hW _=>edTake1 n WW.heap.size x W (hW.cell b2 hbox))
 have HDEL:=Lib.hid hdel
 obtain⟨Ak,ck,rfl⟩:=own_slice hk2.own
 clear g2 hk2 hdel b0 c1 hbox
 generalize childs t p=L at HDEL HR d1 HKAT2 HLK
 dsimp only
 go_wp2_with fail
 refine HDEL.out.mono ?_
 rintro e w3 ⟨v3,rfl,own3,hat3,-,hgr3⟩
 obtain⟨A3,d3,rfl⟩:=own_slice own3
 have HFIN:=Lib.hid (takeDone (R:=R) HKAT2.out HR.out HG2.out own3 hgr3 hat3)
 have c3:=hgr3.cell d1 (fun e=>HKAT2.out.off e.symm)
 have f3:=(World.frozen?_of_block (a:=⟨ab,ao,none⟩) (hgr3.block ab HKAT2.out.lt (fun e=>HKAT2.out.off e.symm))).trans HKAT2.out.frz
 have HKP:=Lib.hid (fun(p:Addr) x (hx:WW.cell? p=some x) (hp:w.heap.size≤p.block)=>(show(w3.setCell ⟨ab,ao,none⟩ (.slice A3 (L.filter fun x=>!(x == n)).length d3)).cell? p=some x from by
  rw[World.cell?_setCell_far _ _ _ _ (fun e=>by have:=HLA.out;dsimp only at e this;omega)]
  exact hgr3.cell (keep_cell HW2.out hx) (fun e=>by have:=HLK.out _ e.symm;omega)))
 clear own3 hgr3 hat3
 dsimp only
 go_wp2
 go_end0
 exact⟨rfl,HFIN.out.1,HFIN.out.2,HKP.out⟩
end
end Go.Proofs.YtdochkemaiokfaaGreat