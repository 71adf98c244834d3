/- Lemmas on what the functions of the program and of the library compute: RT4, Es9a, Es9b. The conditions stand at each. -/
import Derived.Test.YtafncfomiolmgaaGreatDoorQ16
import Derived.Test.YtafncfomiolmgaaGreatDoorQ11
import Derived.Test.YtafncfomiolmgaaGreatDoorQ8
namespace Go.Proofs.YtafncfomiolmgaaGreatDoor
open Go.RowKit
theorem tBelowX (rs:List Int) (l:List Br) (id:Int) (rv bv:Value) (w:World) (hE:Env w) (hr:SlI w rv rs) (hv:SlBr w bv l) (hf:FewBr l) (hrl:rs.length≤1000000) :
  Calls Tryz.prog 34 #[.agg #[rv,bv],.int .i64 id] w (RetMine (belowR ⟨rs,l⟩ id) w):=by
 by_cases hT:RightT ⟨rs,l⟩
 ·by_cases hz:topR l id=0
  ·exact tBelow rs l id rv bv w hE hr hv hf hrl (fun _=>by
    have h1:=below_len (right_sound hT) id (top_found hz)
    have h2:(Tr.brs ⟨rs,l⟩).length=l.length:=rfl
    have:=hf.1
    omega)
  ·exact tBelowNo rs l id rv bv w hE hr hv hf hrl (fun _=>hz)
 ·exact tBelowNo rs l id rv bv w hE hr hv hf hrl (fun h=>absurd h hT)
theorem refUnder (rs:List Int) (l:List Br) (rv bv:Value) (w0:World) (hr:SlI w0 rv rs) (hv:SlBr w0 bv l) (hf:FewBr l) (hrl:rs.length≤1000000) (hT:RightT ⟨rs,l⟩):∀(f:Nat) (b:Br) (d:Nat),b∈l→deep l l.length b=some d→l.length≤f+d→∀ W,Grew w0 W →
  Calls Tryz.prog 146 #[.agg #[rv,bv],.int .i64 b.id] W (RetList (belowL ⟨rs,l⟩ f b.id) W):=by
 have hS:=right_sound hT
 intro f
 induction f with
 | zero =>
  intro b d hb hd hfd W hG
  have hno:childs ⟨rs,l⟩ b.id=[]:=by
   exact c_56
  have he:belowL ⟨rs,l⟩ 0 b.id=(if b.id=0 then[] else[b.id])++(childs ⟨rs,l⟩ b.id).flatMap (fun _=>[]):=by
   rw[hno,if_neg (unit_pos (hS.units b hb))]
   rfl
  rw[he]
  exact refUnderBody rs l rv bv w0 hr hv hf hrl b.id _ (fun k hk=>by rw[hno] at hk;cases hk) (by rw[hno];split<;>simp) (fun k hk=>by rw[hno] at hk;cases hk) W hG
 | succ f ih =>
  intro b d hb hd hfd W hG
  have hlen:=belowL_len hS (f+1) b d hb hd hfd
  have he:belowL ⟨rs,l⟩ (f+1) b.id=(if b.id=0 then[] else[b.id])++(childs ⟨rs,l⟩ b.id).flatMap (belowL ⟨rs,l⟩ f):=by
   rw[if_neg (unit_pos (hS.units b hb))]
   rfl
  rw[he] at hlen ⊢
  refine refUnderBody rs l rv bv w0 hr hv hf hrl b.id (belowL ⟨rs,l⟩ f) (fun k _=>belowL_ne _ _ _) (by have h3:(Tr.brs ⟨rs,l⟩).length=l.length:=rfl;have:=hf.1;omega) (fun k hk=>?_) W hG
  obtain⟨c,hc,hcp,e⟩:=(childs_mem hS (.inr ⟨b,hb,rfl⟩)).1 hk
  rw[← e]
  exact ih c (d+1) hc (deep_child hS hb hc hcp hd) b_37
theorem refUnderT (rs:List Int) (l:List Br) (rv bv:Value) (w0:World) (hr:SlI w0 rv rs) (hv:SlBr w0 bv l) (hf:FewBr l) (hrl:rs.length≤1000000) (hT:RightT ⟨rs,l⟩) (id:Int) (hid:id=0∨∃ b,brFind l id=some b) (W:World) (hG:Grew w0 W) :
  Calls Tryz.prog 146 #[.agg #[rv,bv],.int .i64 id] W (RetList (belowT ⟨rs,l⟩ id) W):=by
 have hS:=right_sound hT
 have hU:=refUnder rs l rv bv w0 hr hv hf hrl hT
 have hlen:=below_len hS id hid
 have h3:(Tr.brs ⟨rs,l⟩).length=l.length:=rfl
 have hfl:=hf.1
 by_cases h0:id=0
 ·subst h0
  have he:belowT ⟨rs,l⟩ 0=(if (0:Int)=0 then[] else[0])++(childs ⟨rs,l⟩ 0).flatMap (belowL ⟨rs,l⟩ l.length):=by
   rw[childs_zero]
   unfold belowT
   rw[if_pos rfl,if_pos rfl,List.nil_append]
  rw[he] at hlen ⊢
  refine refUnderBody rs l rv bv w0 hr hv hf hrl 0 (belowL ⟨rs,l⟩ l.length) (fun k _=>belowL_ne _ _ _) b_37 (fun k hk=>?_) W hG
  rw[childs_zero] at hk
  obtain⟨c,hc,_,e⟩:=(hS.roots.2 k).1 hk
  obtain⟨d,hd,_⟩:=deep_some hS hc
  rw[← e]
  exact hU l.length c d hc hd b_37
 ·obtain⟨b,hb⟩:=hid.resolve_left h0
  have hin:=find_in hb
  obtain⟨d,hd,_⟩:=deep_some hS hin.1
  unfold belowT
  rw[if_neg h0,← hin.2]
  exact hU l.length b d hin.1 hd b_37 W hG
theorem RetList.is {r:List Int} {w w':World} {v:Value} (h:SlI w' v r) (hg:Grew w w'):RetIs (r,0) w (.returned (.tuple #[v,.int .i64 0])) w':=⟨v,rfl,h,hg⟩
set_option maxHeartbeats 2000000 in
theorem refBelow (rs:List Int) (l:List Br) (id:Int) (rv bv:Value) (w:World) (hr:SlI w rv rs) (hv:SlBr w bv l) (hf:FewBr l) (hrl:rs.length≤1000000) (hm:∀ i (h:i<l.length),l[i].mark.size≤9223372036854775807) :
  Calls Tryz.prog 103 #[.agg #[rv,bv],.int .i64 id] w (RetIs (belowR ⟨rs,l⟩ id) w):=by
 have HK:=uZ (fun W (hW:Grew w W)=>refKnown rs l id true rv bv W (hr.mono hW) (hv.mono hW) hf hrl hm)
 have HU:=uZ (fun hT hid W (hG:Grew w W)=>refUnderT rs l rv bv w hr hv hf hrl hT id hid W hG)
 have htop:topR l id=if ((brFind l id).isSome || (true && (id == 0))) then 0 else 7:=by
  unfold topR
  by_cases h0:id=0
  ·simp[h0]
  ·rw[if_neg h0]
   cases hb:brFind l id<;>simp[knownF,h0,hb]
 have HN:RowKit.Hid (∀ n:Int,(¬ RightT ⟨rs,l⟩→n=1)→(RightT ⟨rs,l⟩→n=if ((brFind l id).isSome || (true && (id == 0))) then 0 else 7)→n≠0→belowR ⟨rs,l⟩ id=([],n)):=fun n h1 h2 h3=>by
  unfold belowR
  by_cases hT:RightT ⟨rs,l⟩
  ·have h4:=h2 hT
   rw[← htop] at h4
   rw[if_pos hT]
   show(if topR l id=0 then(belowT ⟨rs,l⟩ id,(0:Int)) else([],topR l id))=_
   rw[if_neg (by rw[← h4];exact h3),h4]
  ·rw[if_neg hT,h1 hT]
 have HZ:RowKit.Hid ((¬ RightT ⟨rs,l⟩→(0:Int)=1)→(RightT ⟨rs,l⟩→(0:Int)=if ((brFind l id).isSome || (true && (id == 0))) then 0 else 7)→RightT ⟨rs,l⟩∧(id=0∨∃ b,brFind l id=some b)∧belowR ⟨rs,l⟩ id=(belowT ⟨rs,l⟩ id,0)):=fun h1 h2=>by
  have hT:RightT ⟨rs,l⟩:=Classical.byContradiction fun h=>by have:=h1 h;omega
  have h4:=h2 hT
  rw[← htop] at h4
  refine⟨hT,top_found h4.symm,?_⟩
  unfold belowR
  rw[if_pos hT]
  show(if topR l id=0 then(belowT ⟨rs,l⟩ id,(0:Int)) else([],topR l id))=_
  rw[if_pos h4.symm]
 generalize belowR ⟨rs,l⟩ id=RES at HN HZ ⊢
 clear hr hv hf hrl hm htop
 go_enter Tryz.func103,Tryz.ntmps103
 go_wp2_with fail
 refine(HK.out _ ((uX w).alloc _)).mono ?_
 rintro e w1 ⟨n,rfl,h1,h2,g1⟩
 have t0:=yQ g1 0 _ rfl
 have t1:=yQ g1 1 _ rfl
 have HG:=uZ (((uX w).alloc _).trans g1)
 have H1:=uZ h1
 have H2:=uZ h2
 clear g1 h1 h2
 dsimp only
 by_cases hz:n=0
 ·subst hz
  obtain⟨hT,hid,hb⟩:=HZ.out H1.out H2.out
  have KU:=uZ (HU.out hT hid)
  clear HU HN HZ H1 H2 HK
  generalize belowT ⟨rs,l⟩ id=L at KU hb
  subst hb
  clear hT hid
  go_wp2_with fail
  refine(KU.out _ HG.out).mono ?_
  rintro e w2 ⟨v2,rfl,s2,g2,-⟩
  have S2:=uZ s2
  have HG2:=uZ (HG.out.trans g2)
  clear s2 g2 t0 t1
  dsimp only
  go_wp2
  go_ret2
  exact RetList.is S2.out HG2.out
 ·have hb:=HN.out n H1.out H2.out hz
  subst hb
  have hz':(n != 0)=true:=by simpa using hz
  clear hz HN HZ HU
  go_wp2
  go_ret2
  exact⟨_,rfl,SlI.nil _,HG.out⟩
end Go.Proofs.YtafncfomiolmgaaGreatDoor
namespace Go.Proofs.YtafncfomiolmgaaGreatDoor
open Go.RowKit
theorem belowR_unit {t:Tr} (h:RightT t) {n:Int} {u:Br} (hb:brFind t.brs n=some u):belowR t n=(belowT t n,0):=by
 have e:topR t.brs n=0:=by
  unfold topR knownF
  split
  ·rfl
  ·rw[if_pos (by simp[hb])]
 unfold belowR
 rw[if_pos h,if_pos e]
theorem take_asc {t:Tr} {u:Br} (h:SoundM t):idsAsc (takeM t u).brs:=by
 unfold takeM
 rw[setK_brs]
 split
 ·exact h.asc
 ·exact List.Pairwise.map _ (fun a b hab=>by unfold kidG;(repeat' split)<;>exact hab) h.asc
section
variable {w0:World} {E:Nat} {bv:Value} {t:Tr} {o:Opn} {u:Br} {W:World}
theorem moveBelow (h:EdB w0.heap.size E bv t W) (hS:SoundM t) (hR:RightT t) (hEnv:Env W) (hb:brFind t.brs o.unit=some u) {rv:Value} (h0:W.cell? ⟨E,0,none⟩=some rv) :
  Calls Tryz.prog 34 #[.agg #[rv,bv],.int .i64 o.unit] W fun e w'=>∃ v,e=.returned (.tuple #[v,.int .i64 0])∧SlI w' v (belowT t o.unit)∧Grew W w':=by
 obtain⟨rv',hr,hbr,c0,-,-,-⟩:=h.reads
 obtain rfl:rv'=rv:=Option.some.inj (c0.symm.trans h0)
 have hT:=tok_of hS
 refine(tBelowX t.roots t.brs o.unit rv' bv W hEnv hr hbr hT.few hT.roots).mono fun e w' hm=>?_
 obtain⟨v,e1,e2,e3⟩:=RetMine.is_ hm
 have e4:belowR ⟨t.roots,t.brs⟩ o.unit=(belowT t o.unit,0):=belowR_unit (t:=t) hR hb
 rw[e4] at e1 e2
 exact⟨v,e1,e2,e3⟩
theorem moveStore (h:EdB w0.heap.size E bv (takeM t u) W) (hG:Grew w0 W) (hS:SoundM t) {i:Nat} {B cap:Nat} (hi:i<(takeM t u).brs.length) (hbv:bv=.slice (some ⟨B,0,none⟩) (takeM t u).brs.length cap) (hn:(takeM t u).brs[i].id=u.id) (p:Int) :
  EdB w0.heap.size E bv (nameM t u p) (W.setCell ⟨B,i*6+1,none⟩ (.int .i64 p))∧Grew w0 (W.setCell ⟨B,i*6+1,none⟩ (.int .i64 p))∧W.frozen? ⟨B,i*6+1,none⟩=false∧∃ v,W.cell? ⟨B,i*6+1,none⟩=some v:=by
 obtain⟨rv,cs,hE⟩:=h
 obtain⟨-,c1,-,-,-,-,hz,hlo,-⟩:=hE.at_ hi hbv
 have hf:=hE.field (take_asc hS) hi (j:=1) b_37 hbv (fun b=>{ b with parent:=p }) (.int .i64 p) (fun _=>rfl) rfl
 rw[hn] at hf
 exact⟨hf,hG.setCell (p:=⟨B,i*6+1,none⟩) hlo _,hz _,_,c1⟩
theorem movePut (hS:SoundM t) (hc:CanMove t o u) (hp:u.parent=0∨∃ b∈t.brs,b.id=u.parent) (h:EdB w0.heap.size E bv (nameM t u o.parent) W) (hG:Grew w0 W) :
  Calls Tryz.prog 92 #[.pointer (some ⟨E,0,none⟩),.int .i64 o.unit,.int .i64 o.parent,.int .i64 o.before] W fun e w'=>e=.returned (.tuple #[])∧EdB w0.heap.size E bv (moveT t o u) w'∧Grew w0 w':=by
 obtain⟨p1,p2,p3⟩:=move_put hS hc hp
 have hT:=tok_of hS
 have:=edPut h hG (move_asc hS) (by rw[move_len];exact hT.len) (p:=o.parent) ((stands_there hc.stands).imp_right fun hx=>(move_ids o.parent).2 hx) o.unit o.before p1 p2 p3
 rw[move_eq hc] at this
 exact this
open Classical in
theorem moveLimit (hS:SoundM t) (hc:CanMove t o u) (h:EdB w0.heap.size E bv (moveT t o u) W) (hEnv:Env W) :
  Calls Tryz.prog 93 #[.pointer (some ⟨E,0,none⟩)] W fun e w'=>e=.returned (.int .i64 (if RightT (moveT t o u) then 0 else 15))∧Grew W w':=edLimit h (tok_of (move_sound hS hc)) hEnv
end
end Go.Proofs.YtafncfomiolmgaaGreatDoor
namespace Go.Proofs.YtafncfomiolmgaaGreatDoor
open Go.RowKit
section
variable {w0:World} {E:Nat} {bv:Value} {t:Tr} {w:World}
set_option maxHeartbeats 4000000 in
theorem edTakeAt (h:EdB w0.heap.size E bv t w) (hG:Grew w0 w) (WW:World) (hWW:Grew w WW) (hasc:idsAsc t.brs) (hlen:t.brs.length≤1000000) {i:Nat} (hi:i<t.brs.length) (hp:t.brs[i].parent=0∨∃ b∈t.brs,b.id=t.brs[i].parent) :
  Calls Tryz.prog 94 #[.pointer (some ⟨E,0,none⟩),.int .i64 t.brs[i].id] WW fun e w'=>e=.returned (.tuple #[])∧EdB w0.heap.size E bv (setK t t.brs[i].parent (withoutF t.brs[i].id (childs t t.brs[i].parent))) w'∧Grew w0 w'∧∀ p x,WW.cell? p=some x→w.heap.size≤p.block→w'.cell? p=some x:=by
 have HWW:=uZ hWW
 obtain⟨rv,cs,hE⟩:=h
 obtain⟨B,cap,hbv,-,-,-⟩:=own_form hE.brs b_37
 obtain⟨-,c1,-⟩:=hE.at_ hi hbv
 have hEw:EdB w0.heap.size E bv t w:=⟨rv,cs,hE⟩
 have KB:=uZ (fun W (hW:Grew w W)=>edBranch (hEw.grew hW) hasc hlen hi hbv)
 obtain⟨ab,ao,kv,hkat,hK⟩:=edKidsAt hEw hasc hlen hp
 have KK:=uZ hK
 have HKAT:=uZ hkat
 have HG:=uZ hG
 have C1:=uZ c1
 unfold withoutF
 generalize hR:setK t t.brs[i].parent ((childs t t.brs[i].parent).filter fun x=>!(x == t.brs[i].id))=R
 have HR:=uZ hR
 clear hR
 generalize t.brs[i].id=n at KB HR ⊢
 generalize t.brs[i].parent=p at KK C1 HKAT HR ⊢
 clear hE hEw hG hWW hasc hlen hp c1 hbv hkat hK
 go_enter Tryz.func94,Tryz.ntmps94
 go_wp2_with fail
 refine(KB.out _ (HWW.out.trans ((uX WW).alloc _))).mono ?_
 rintro e w1 ⟨rfl,g1⟩
 have b0:=yQ (cs:=[.int .i64 n]) g1 0 _ rfl
 have HG1:=uZ (HWW.out.trans (((uX WW).alloc _).trans g1))
 have HW1:=uZ (((uX WW).alloc _).trans g1)
 have c1:=uQ HG1.out C1.out
 clear g1
 dsimp only
 go_wp2_with fail
 refine(KK.out _ HG1.out).mono ?_
 rintro e w2 ⟨rfl,g2⟩
 have hk2:=HKAT.out.grew (HG1.out.trans g2)
 have b2:=uQ g2 b0
 have d1:=hk2.cell
 have HKAT2:=uZ hk2
 have HG2:=uZ (HG.out.trans (HG1.out.trans g2))
 have HW2:=uZ (HW1.out.trans g2)
 have hbox:some WW.heap.size≠kv.ownBlock:=fun e=>by
  have:=(HKAT.out.own.lt _ e.symm).2
  have:=HWW.out.size
  omega
 have HLK:=uZ (fun b (e:kv.ownBlock=some b)=>(HKAT.out.own.lt b e).2)
 have HLA:=uZ HKAT.out.lt
 have hdel:=deleteFuncG (childs t p) (fun x=>x == n) 138 #[.pointer (some ⟨WW.heap.size,0,none⟩)] enters_edTake1 w0.heap.size kv w2 HG2.out.size hk2.own (fun W x hW _=>edTake1 n WW.heap.size x W (hW.cell b2 hbox))
 have HDEL:=uZ hdel
 obtain⟨Ak,ck,rfl⟩:=own_slice hk2.own
 clear g2 hk2 hdel b0 c1 hbox
 generalize childs t p=L at HDEL HR d1 HKAT2 HLK
 dsimp only
 go_wp2_with fail
 refine HDEL.out.mono ?_
 rintro e w3 ⟨v3,rfl,own3,hat3,-,hgr3⟩
 obtain⟨A3,d3,rfl⟩:=own_slice own3
 have HFIN:=uZ (takeDone (R:=R) HKAT2.out HR.out HG2.out own3 hgr3 hat3)
 have c3:=hgr3.cell d1 (fun e=>HKAT2.out.off e.symm)
 have f3:=(World.frozen?_of_block (a:=⟨ab,ao,none⟩) (hgr3.block ab HKAT2.out.lt (fun e=>HKAT2.out.off e.symm))).trans HKAT2.out.frz
 have HKP:=uZ (fun(p:Addr) x (hx:WW.cell? p=some x) (hp:w.heap.size≤p.block)=>(show(w3.setCell ⟨ab,ao,none⟩ (.slice A3 (L.filter fun x=>!(x == n)).length d3)).cell? p=some x from by
  rw[World.cell?_setCell_far _ _ _ _ (fun e=>by have:=HLA.out;dsimp only at e this;omega)]
  exact hgr3.cell (uQ HW2.out hx) (fun e=>by have:=HLK.out _ e.symm;omega)))
 clear own3 hgr3 hat3
 dsimp only
 go_wp2
 go_end0
 exact⟨rfl,HFIN.out.1,HFIN.out.2,HKP.out⟩
end
end Go.Proofs.YtafncfomiolmgaaGreatDoor