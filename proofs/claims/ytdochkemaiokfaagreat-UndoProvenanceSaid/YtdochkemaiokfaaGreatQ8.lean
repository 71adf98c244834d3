/- Lemmas on what the functions of the program and of the library compute: Es3, App4, Bk1, RT1, TM1, PlainZ, PlainMv, PlainBl, PlainAp. The conditions stand at each. -/
import Derived.Test.YtdochkemaiokfaaGreatQ7
import Derived.Test.YtdochkemaiokfaaGreatQ4
import Derived.Test.YtdochkemaiokfaaGreatQ1
import Derived.Test.YtdochkemaiokfaaGreatQ2
import Derived.Test.YtdochkemaiokfaaGreatT7Q
import Derived.Deep.RegionHeld3
/- The editor's take, walked. The conditions: the units ascend; the lists are short. -/
namespace Go.Proofs.YtdochkemaiokfaaGreat
open Go.RowKit
theorem edTake1 (n:Int) (B:Nat) (x:Int) (W:World) (h0:W.cell? ⟨B,0,none⟩=some (.int .i64 n)) :
  Calls Tryz.prog 191 (#[.int .i64 x] ++ #[.pointer (some ⟨B,0,none⟩)]) W fun e w'=>e=.returned (.bool (x == n))∧Grew W w':=by
 have hB:=World.block_lt_of_cell? W _ h0
 go_enter Tryz.func191,Tryz.ntmps191
 go_wp2
 go_ret
 exact⟨rfl,Grew.refl W⟩
theorem enters_edTake1:∀ args w,(callFunc 191 args).run Tryz.prog w=.ok (.enter 191 args) w:=enters_of Tryz.func191 (by kernel_rfl) rfl
section
variable {w0:World} {E:Nat} {bv:Value} {t:Tr} {w:World}
theorem takeDone {w1 w3:World} {p n:Int} {ab ao:Nat} {kv v3:Value} {L:List Int} {R:Tr} (h:KAt w0.heap.size E bv t p ⟨ab,ao,none⟩ kv w1) (hR:setK t p (L.filter fun x=>!(x == n))=R) (hG:Grew w0 w1) (own:w3.ownsRow w0.heap.size 3 1 v3 (L.filter fun x=>!(x == n)).length ((L.filter fun x=>!(x == n)).flatMap oneI))
  (hg:w1.grownBy w3 kv.ownBlock) (hat:v3.ownBlock=kv.ownBlock):EdB w0.heap.size E bv R (w3.setCell ⟨ab,ao,none⟩ v3)∧Grew w0 (w3.setCell ⟨ab,ao,none⟩ v3):=by
 refine⟨?_,?_⟩
 ·rw[← hR]
  exact h.back w3 v3 _ hg own (.inl hat)
 ·exact(Below.grown hG hg hG.size (fun b e=>(h.own.lt b e).1)).setCell (p:=⟨ab,ao,none⟩) h.lo v3
theorem edKidsAt {base:Nat} (h:EdB base E bv t w) (hasc:idsAsc t.brs) (hlen:t.brs.length≤1000000) {p:Int} (hp:p=0∨∃ b∈t.brs,b.id=p) :
  ∃ ab ao kv,KAt base E bv t p ⟨ab,ao,none⟩ kv w∧∀ W,Grew w W→Calls Tryz.prog 131 #[.pointer (some ⟨E,0,none⟩),.int .i64 p] W fun e w'=>e=.returned (.pointer (some ⟨ab,ao,none⟩))∧Grew W w':=by
 by_cases hz:p=0
 ·subst hz
  obtain⟨rv,cs,hE⟩:=h
  refine⟨E,0,rv,hE.kat0,fun W hW=>?_⟩
  clear hE hW
  go_enter Tryz.func131,Tryz.ntmps131
  go_wp2
  go_ret
  exact⟨rfl,Grew.refl W⟩
 ·obtain⟨b,hb,e⟩:=hp.resolve_left hz
  obtain⟨i,hi,rfl⟩:=List.mem_iff_getElem.1 hb
  subst e
  obtain⟨rv,cs,hE⟩:=h
  obtain⟨B,cap,hbv,-,-,-⟩:=own_form hE.brs (by omega)
  refine⟨B,i*6+5,_,hE.katB hasc hi hz hbv,fun W hW=>?_⟩
  have hEW:EdB base E bv t W:=⟨rv,cs,hE.grew hW⟩
  have K:=Lib.hid (edBranch hEW hasc hlen hi hbv)
  have hz':(t.brs[i].id == 0)=false:=by simpa using hz
  generalize t.brs[i].id=p at K hz' ⊢
  clear hE hz hb hp hEW hW
  go_enter Tryz.func131,Tryz.ntmps131
  go_wp2_with fail
  refine K.out.mono ?_
  rintro e w1 ⟨rfl,g1⟩
  dsimp only
  go_wp2
  go_ret
  exact⟨rfl,g1⟩
set_option maxHeartbeats 4000000 in
theorem edTake (h:EdB w0.heap.size E bv t w) (hG:Grew w0 w) (hasc:idsAsc t.brs) (hlen:t.brs.length≤1000000) {i:Nat} (hi:i<t.brs.length) (hp:t.brs[i].parent=0∨∃ b∈t.brs,b.id=t.brs[i].parent) :
  Calls Tryz.prog 137 #[.pointer (some ⟨E,0,none⟩),.int .i64 t.brs[i].id] w fun e w'=>e=.returned (.tuple #[])∧EdB w0.heap.size E bv (setK t t.brs[i].parent (withoutF t.brs[i].id (childs t t.brs[i].parent))) w'∧Grew w0 w':=by
 obtain⟨rv,cs,hE⟩:=h
 obtain⟨B,cap,hbv,-,-,-⟩:=own_form hE.brs (by omega)
 obtain⟨-,c1,-⟩:=hE.at_ hi hbv
 have hEw:EdB w0.heap.size E bv t w:=⟨rv,cs,hE⟩
 have KB:=Lib.hid (fun W (hW:Grew w W)=>edBranch (hEw.grew hW) hasc hlen hi hbv)
 obtain⟨ab,ao,kv,hkat,hK⟩:=edKidsAt hEw hasc hlen hp
 have KK:=Lib.hid hK
 have HKAT:=Lib.hid hkat
 have HG:=Lib.hid hG
 have C1:=Lib.hid c1
 unfold withoutF
 generalize hR:setK t t.brs[i].parent ((childs t t.brs[i].parent).filter fun x=>!(x == t.brs[i].id))=R
 have HR:=Lib.hid hR
 clear hR
 generalize t.brs[i].id=n at KB HR ⊢
 generalize t.brs[i].parent=p at KK C1 HKAT HR ⊢
 clear hE hEw hG hasc hlen hp c1 hbv hkat hK
 go_enter Tryz.func137,Tryz.ntmps137
 go_wp2_with fail
 refine(KB.out _ ((Grew.refl w).alloc _)).mono ?_
 rintro e w1 ⟨rfl,g1⟩
 have b0:=new_cell (cs:=[.int .i64 n]) g1 0 _ rfl
 have HG1:=Lib.hid (((Grew.refl w).alloc _).trans g1)
 have c1:=keep_cell HG1.out C1.out
 clear g1
 dsimp only
 go_wp2_with fail
 refine(KK.out _ HG1.out).mono ?_
 rintro e w2 ⟨rfl,g2⟩
 have hk2:=HKAT.out.grew (HG1.out.trans g2)
 have b2:=keep_cell g2 b0
 have d1:=hk2.cell
 have HKAT2:=Lib.hid hk2
 have HG2:=Lib.hid (HG.out.trans (HG1.out.trans g2))
 have hbox:some w.heap.size≠kv.ownBlock:=fun e=>by
  have:=(HKAT.out.own.lt _ e.symm).2
  omega
 have hdel:=deleteFuncG (childs t p) (fun x=>x == n) 191 #[.pointer (some ⟨w.heap.size,0,none⟩)] enters_edTake1 w0.heap.size kv w2 HG2.out.size hk2.own (fun W x hW _=>edTake1 n w.heap.size x W (hW.cell b2 hbox))
 have HDEL:=Lib.hid hdel
 obtain⟨Ak,ck,rfl⟩:=own_slice hk2.own
 clear g2 hk2 hdel b0 c1 hbox
 generalize childs t p=L at HDEL HR d1 HKAT2
 dsimp only
 go_wp2_with fail
 refine HDEL.out.mono ?_
 rintro e w3 ⟨v3,rfl,own3,hat3,-,hgr3⟩
 obtain⟨A3,d3,rfl⟩:=own_slice own3
 have HFIN:=Lib.hid (takeDone (R:=R) HKAT2.out HR.out HG2.out own3 hgr3 hat3)
 have c3:=hgr3.cell d1 (fun e=>HKAT2.out.off e.symm)
 have f3:=(World.frozen?_of_block (a:=⟨ab,ao,none⟩) (hgr3.block ab HKAT2.out.lt (fun e=>HKAT2.out.off e.symm))).trans HKAT2.out.frz
 clear own3 hgr3 hat3
 dsimp only
 go_wp2
 go_end0
 exact⟨rfl,HFIN.out⟩
end
end Go.Proofs.YtdochkemaiokfaaGreat
/- Parts of a slice, and an empty list that was just made as a row of the call's own. No condition but the sizes that a slice can have. -/
namespace Go.Proofs.YtdochkemaiokfaaGreat
open Go.RowKit
theorem part_to {P:Program} {t e:TypeId} {i:TypeInfo} (ht:P.underlying t=some (.slice e)) (hi:P.info? e=some i) (A:Option Addr) (n c k:Nat) (hk:k≤n) (hn:n≤c) :
  ∀ W,(Instr.slice t (.slice A n c) none (some (.int .i64 (k:Int))) none).run P W=.ok (.slice A k c) W:=by
 intro W
 have h0:(0:Int)≤(k:Int):=by omega
 have h1:k≤c:=by omega
 have h2:(k:Int)≤(c:Int):=by omega
 have ha:A.map (fun a=>a.add 0)=A:=by cases A<;>simp[Addr.add]
 simp[Instr.slice,run_underlying ht,Instr.sliceBounds,run_sliceBound,h2,sizeOf,typeInfo,hi,ha]
theorem preV_rd {W:World} {size n c k:Nat} {A:Option Addr} {cs:List Value} (h:Rd W size (.slice A n c) cs) (hk:k≤n):Rd W size (.slice A k c) (cs.take (k*size)):=by
 obtain⟨A',n',c',hv,hl,hn,hc,hr⟩:=h
 obtain⟨rfl,rfl,rfl⟩:=Value.slice.inj hv
 have hm:k*size≤n*size:=Nat.mul_le_mul_right _ hk
 refine⟨A,k,c,rfl,by rw[List.length_take];omega,by omega,hc,fun h0=>?_⟩
 obtain⟨b,off,hA,hb,hcell⟩:=hr (by omega)
 refine⟨b,off,hA,hb,fun j u hu=>?_⟩
 rw[List.getElem?_take] at hu
 split at hu
 ·exact hcell j u hu
 ·cases hu
theorem rd_lit {W:World} {size:Nat} {e:TypeId} (cs:List Value) (hl:cs.length=size) (H:Nat) (hH:W.heap.size=H):Rd (W.alloc (.cells cs.toArray e)) size (.slice (some ⟨H,0,none⟩) 1 1) cs:=by
 subst hH
 exact Rd.fresh W e size 1 cs (by omega) (by unfold maxLen;omega)
theorem rd_block {W:World} {size:Nat} {cs:List Value} {H n:Nat} (hl:cs.length=n*size) (hn:n≤maxLen) (hb:H<W.heap.size) (h:∀ j u,cs[j]? = some u→W.cell? ⟨H,j,none⟩=some u):Rd W size (.slice (some ⟨H,0,none⟩) n n) cs :=
 ⟨_,n,n,rfl,hl,Nat.le_refl _,hn,fun _=>⟨H,0,rfl,hb,fun j u hu=>by rw[Nat.zero_add];exact h j u hu⟩⟩
theorem stepZ {P:Program} {ops:Array Oper} {o:Oper} {a:Act} {K:Act→World→Prop} {Q:Exit→Act→World→Prop} {E:Prop} (hgd:o.guard=none) (s x:Operand) (t:TypeId)
  (ho:o.op=.call { callee:=.builtin .append,args:=#[s,x],argTypes:=#[t,t] })
  (w0:World) (e:TypeId) (i:TypeInfo) (z:Value) (size bytes:Nat) (ht:P.underlying t=some (.slice e)) (hi:P.info? e=some i) (hz:i.zero=some z)
  (hsize:i.size=size) (hby:i.bytes=bytes) (hzs:z.cells.size=size) (hsz:0<size)
  (v:Value) (n:Nat) (xs:List Value) (hs:a.eval s=v) (wr:World) (hown:wr.ownsRow w0.heap.size e size v n xs) (hg:Grew w0 wr)
  (u:Value) (m:Nat) (cs:List Value) (hx:a.eval x=u) (hu:Rd wr size u cs) (hl:cs.length=m*size) (h1:∀ u∈cs,u.oneCell'=true)
  (h63:n+m≤maxLen) (hbytes:(n+m)*bytes≤140737488355328)
  (h:∀ v' w',w'.ownsRow w0.heap.size e size v' (n+m) (xs++cs)→Grew w0 w'→(∀ p x,wr.cell? p=some x→some p.block≠v.ownBlock→w'.cell? p=some x)→wr.heap.size≤w'.heap.size→K (a.put o.dst v') w'):if Region.wanted o (yielded ops a.tmps)=true then Oper.wp P o a wr K Q else E:=by
 have hw:Region.wanted o (yielded ops a.tmps)=true:=by simp[Region.wanted,hgd]
 rw[if_pos hw]
 obtain⟨A,m',c,rfl,hl',hmc,_,hr⟩:=hu
 obtain rfl:m'=m:=Nat.eq_of_mul_eq_mul_right hsz (hl'.symm.trans hl)
 cases A with
 | none =>
  have hm0:m'=0:=by
   rcases Nat.eq_zero_or_pos m' with h0|h0
   ·exact h0
   ·obtain⟨b,off,hA,_⟩:=hr h0
    cases hA
  subst hm0
  have hcs:cs=[]:=List.eq_nil_of_length_eq_zero (by omega)
  subst hcs
  have hrun:=run_append_none wr w0.heap.size t o.type e i size ht hi v n xs hown c
  unfold Oper.wp execOp
  simp only [ho,resolve,invoke,builtin,Sem.run_bind,Sem.run_pure,Result.andThen_ok,List.map_toArray,List.map_cons,List.map_nil,hs,hx,hrun]
  exact h v wr (by simpa using hown) hg (fun p x hp _=>hp) (Nat.le_refl _)
 | some ad =>
  refine wp_append_own wr s x t ho w0.heap.size e i z size bytes ht hi hz hsize hby hzs hsz v n xs hs hown ad m' c cs hx hl ?_ h1 h63 hbytes hg.size ?_
  ·intro j u hu
   have hj:=(List.getElem?_eq_some_iff.1 hu).1
   have h0:0<m':=by
    rcases Nat.eq_zero_or_pos m' with h0|h0
    ·subst h0;omega
    ·exact h0
   obtain⟨b,off,hA,_,hcell⟩:=hr h0
   cases hA
   rw[add_lit]
   exact hcell j u hu
  ·intro v' w' h2 h3 _
   exact h v' w' h2 (Below.grown hg h3 hg.size (fun k hk=>(hown.lt k hk).1)) (fun p x hp hne=>h3.cell hp hne) h3.size
end Go.Proofs.YtdochkemaiokfaaGreat
/- tree.known on any tree, orTop, kids, Kids, walked. The conditions: the library's own variables hold what they must; the lists are short. -/
namespace Go.Proofs.YtdochkemaiokfaaGreat
open Go.RowKit
set_option maxHeartbeats 2000000 in
theorem tKnownNo (rs:List Int) (l:List Br) (rv bv kv:Value) (w:World) (hE:Env w) (hr:SlI w rv rs) (hv:SlBr w bv l) (hf:FewBr l) (hrl:rs.length≤1000000) (hT:¬ RightT ⟨rs,l⟩) :
  Calls Tryz.prog 220 #[.agg #[rv,bv],kv] w fun e w'=>e=.returned (.int .i64 1)∧Grew w w':=by
 have KR:=Lib.hid (fun W (hW:Grew w W)=>tRight rs l rv bv W (hE.mono hW) (hr.mono hW) (hv.mono hW) hf hrl)
 have HT:=Lib.hid hT
 clear hE hr hv hf hrl hT
 go_enter Tryz.func220,Tryz.ntmps220
 go_wp2_with fail
 refine(KR.out _ ((Grew.refl w).alloc _)).mono ?_
 rintro e w1 ⟨bb,rfl,hbb,g1⟩
 obtain rfl:bb=false:=by
  cases bb
  ·rfl
  ·exact absurd (hbb.1 rfl) HT.out
 have HG1:=Lib.hid g1
 clear hbb g1
 dsimp only
 go_wp2
 go_ret
 exact⟨rfl,((Grew.refl w).alloc _).trans HG1.out⟩
def topR (l:List Br) (id:Int):Int:=if id=0 then 0 else knownF l [id]
set_option maxHeartbeats 2000000 in
theorem tOrTop (rs:List Int) (l:List Br) (id:Int) (rv bv:Value) (w:World) (hE:Env w) (hr:SlI w rv rs) (hv:SlBr w bv l) (hf:FewBr l) (hrl:rs.length≤1000000) (n:Int) (hn:(¬ RightT ⟨rs,l⟩→n=1)∧(RightT ⟨rs,l⟩→n=topR l id)) :
  Calls Tryz.prog 188 #[.agg #[rv,bv],.int .i64 id] w fun e w'=>e=.returned (.int .i64 n)∧Grew w w':=by
 have hfr:∀ W:World,SlI (W.alloc (.cells #[.int .i64 id] 3)) (.slice (some ⟨W.heap.size,0,none⟩) 1 1) [id]:=fun W=>Rd.fresh W _ 1 1 [.int .i64 id] rfl (by decide)
 have hK:∀ W kv ids,Grew w W→SlI W kv ids→(ids=[]∧id=0∨ids=[id]∧id≠0)→Calls Tryz.prog 220 #[.agg #[rv,bv],kv] W fun e w'=>e=.returned (.int .i64 n)∧Grew W w':=by
  intro W kv ids hW hk hi
  by_cases hT:RightT ⟨rs,l⟩
  ·have h1:=tKnown rs l ids rv bv kv W (hE.mono hW) (hr.mono hW) (hv.mono hW) hk hf hrl hT
   have h2:knownF l ids=n:=by
    rw[hn.2 hT]
    unfold topR
    rcases hi with ⟨rfl,h⟩|⟨rfl,h⟩
    ·rw[if_pos h]
     rfl
    ·rw[if_neg h]
   rw[h2] at h1
   exact h1
  ·have h1:=tKnownNo rs l rv bv kv W (hE.mono hW) (hr.mono hW) (hv.mono hW) hf hrl hT
   rw[hn.1 hT]
   exact h1
 have KK:=Lib.hid hK
 have HFR:=Lib.hid hfr
 clear hE hr hv hf hrl hK hfr hn
 by_cases h0:id=0
 ·subst h0
  go_enter Tryz.func188,Tryz.ntmps188
  go_wp2_with fail
  refine(KK.out _ _ [] ((Grew.refl w).alloc _) (SlI.nil _) (.inl (by simp))).mono ?_
  rintro e w1 ⟨rfl,g1⟩
  dsimp only
  go_wp2
  go_ret
  exact⟨rfl,((Grew.refl w).alloc _).trans g1⟩
 ·have h0':(id == 0)=false:=by simpa using h0
  have H0:=Lib.hid h0
  clear h0
  go_enter Tryz.func188,Tryz.ntmps188
  go_wp2_with fail
  refine(KK.out _ _ [id] (((Grew.refl w).alloc _).alloc _) (by have:=HFR.out (w.alloc (.cells #[rv,bv] 43));simpa using this) (.inr ⟨rfl,H0.out⟩)).mono ?_
  rintro e w1 ⟨rfl,g1⟩
  dsimp only
  go_wp2
  go_ret
  exact⟨rfl,(((Grew.refl w).alloc _).alloc _).trans g1⟩
theorem tKids0 (rs:List Int) (l:List Br) (id:Int) (rv bv:Value) (w0 w:World) (hr:SlI w0 rv rs) (hv:SlBr w0 bv l) (hg:Grew w0 w) (hf:l.length≤1000000) (hT:RightT ⟨rs,l⟩) (hid:id=0∨∃ b,brFind l id=some b) :
  Calls Tryz.prog 224 #[.agg #[rv,bv],.int .i64 id] w fun e w'=>∃ v,e=.returned v∧SlI w0 v (childs ⟨rs,l⟩ id)∧Grew w w':=by
 unfold childs
 by_cases h0:id=0
 ·subst h0
  rw[if_pos rfl]
  have HR:=Lib.hid hr
  obtain⟨B,d,rfl,-,-,-⟩:=hr.open_
  clear hr hv hg hid
  go_enter Tryz.func224,Tryz.ntmps224
  go_wp2
  go_ret
  exact⟨_,rfl,HR.out,(Grew.refl w).alloc _⟩
 ·obtain⟨b,hb⟩:=hid.resolve_left h0
  rw[if_neg h0]
  obtain⟨k,hk,_,e⟩:=brIdx_some hb
  have hidk:l[k].id=id:=by
   rw[e]
   exact(find_in hb).2
  obtain⟨h1,h2⟩:=at_some hT.2.1 id k hk hidk
  have kA:=fun W (hW:Grew w W)=>tAt l id rv bv W (hv.mono (hg.trans hW)) hf (cmpId_mono hT.2.1 id)
  rw[h1,h2] at kA
  have KA:=Lib.hid kA
  obtain⟨A,c,rfl,hlc,hc,hrr⟩:=hv.open_
  unfold maxLen at hc
  obtain⟨bb,off,rfl,hbk,hcell⟩:=hrr (by omega)
  obtain⟨kv,hkv,hcl⟩:=hcell k hk
  have HKV:RowKit.Hid (SlI w0 kv (match brFind l id with|none=>[]|some b=>b.kids)):=by
   rw[hb]
   rw[e] at hkv
   exact hkv
  show Calls Tryz.prog 224 #[.agg #[rv,.slice (some ⟨bb,off,none⟩) l.length c],.int .i64 id] w fun e w'=>∃ v,e=.returned v∧SlI w0 v (match brFind l id with|none=>[]|some b=>b.kids)∧Grew w w'
  generalize (match brFind l id with|none=>[]|some b=>b.kids)=K at HKV ⊢
  have hcl5:∀ W,Grew w0 W→W.cell? ⟨bb,off+k*6+5,none⟩=some kv:=fun W hW=>(hcl W hW).2.2.2.2.2
  have HC:=Lib.hid hcl5
  have HG:=Lib.hid hg
  have h0':(id == 0)=false:=by simpa using h0
  have hkz:(k:Int)<(l.length:Int):=by omega
  have h0z:(0:Int)≤(k:Int):=by omega
  obtain⟨Az,cz,rfl,-,-,-⟩:=hkv.open_
  clear hr hv hg hid hb e h1 h2 kA hrr hcell hcl hcl5 hkv hT h0 hidk
  go_enter Tryz.func224,Tryz.ntmps224
  go_wp2_with fail
  refine(KA.out _ ((Grew.refl w).alloc _)).mono ?_
  rintro e w1 ⟨rfl,g1⟩
  have b0:=new_cell g1 0 _ rfl
  have b1:=new_cell g1 1 _ rfl
  have HG1:=Lib.hid (((Grew.refl w).alloc _).trans g1)
  have c5:=HC.out w1 (HG.out.trans HG1.out)
  clear g1
  dsimp only
  go_wp2
  go_ret
  exact⟨_,rfl,HKV.out,HG1.out⟩
theorem top_found {l:List Br} {id:Int} (h:topR l id=0):id=0∨∃ b,brFind l id=some b:=by
 unfold topR at h
 by_cases h0:id=0
 ·exact .inl h0
 ·rw[if_neg h0] at h
  unfold knownF at h
  cases hb:brFind l id with
  | none=>simp[hb] at h
  | some b=>exact .inr ⟨b,rfl⟩
def RetIs (r:List Int × Int) (w:World) (e:Ending) (w':World):Prop:=∃ v,e=.returned (.tuple #[v,.int .i64 r.2])∧SlI w' v r.1∧Grew w w'
end Go.Proofs.YtdochkemaiokfaaGreat
/- The reference's Marked and Children of a tree, walked; the program's Marked. No condition but the sizes that a slice can have. -/
namespace Go.Proofs.YtdochkemaiokfaaGreat
open Go.RowKit
def markedF (l:List Br) (m:ByteArray):Option Br:=if m.toList.isEmpty then none else l.find? fun b=>b.mark.toList == m.toList
def markV (o:Option Br):Value:=.tuple #[.int .i64 (match o with|none=>0|some b=>b.id),.bool o.isSome]
end Go.Proofs.YtdochkemaiokfaaGreat
/- tree.Marked, walked. No condition but the sizes that a slice can have. -/
namespace Go.Proofs.YtdochkemaiokfaaGreat
open Go.RowKit
def markP (m:ByteArray) (x:ByteArray):Bool:=!m.toList.isEmpty && (x.toList == m.toList)
def markIdx (l:List Br) (m:ByteArray):Int:=idxP (fun b=>markP m b.mark) l
theorem markIdx_none {l:List Br} {m:ByteArray} (h:markedF l m=none):markIdx l m=-1:=by
 refine idxP_miss _ l (fun i hi=>?_)
 unfold markedF at h
 unfold markP
 by_cases hm:m.toList.isEmpty=true
 ·rw[hm]
  rfl
 ·rw[if_neg hm] at h
  have:=List.find?_eq_none.1 h l[i] (List.getElem_mem hi)
  simp only [Bool.not_eq_true] at this
  rw[this,Bool.and_false]
theorem markIdx_some {l:List Br} {m:ByteArray} {b:Br} (h:markedF l m=some b):∃ k,∃ hk:k<l.length,markIdx l m=(k:Int)∧l[k]=b:=by
 unfold markedF at h
 by_cases hm:m.toList.isEmpty=true
 ·rw[if_pos hm] at h
  cases h
 ·rw[if_neg hm] at h
  have hmf:m.toList.isEmpty=false:=by simpa using hm
  obtain⟨hb,k,hk,e,hbef⟩:=List.find?_eq_some_iff_getElem.1 h
  refine⟨k,hk,idxP_hit _ l k hk (by unfold markP;rw[hmf,e];simpa using hb) (fun i hi hik=>?_),e⟩
  have:=hbef i hik
  unfold markP
  rw[hmf]
  simpa using this
set_option maxHeartbeats 2000000 in
theorem tMarked1 (B:Nat) (m:ByteArray) (x:BrC) (W:World) (h0:W.cell? ⟨B,0,none⟩=some (.string m)) :
  Calls Tryz.prog 216 (#[x.agg] ++ #[.pointer (some ⟨B,0,none⟩)]) W fun e w'=>e=.returned (.bool (markP m x.mark))∧Grew W w':=by
 have hB:=World.block_lt_of_cell? W _ h0
 unfold BrC.agg markP
 cases hm:m.toList.isEmpty with
 | true =>
  have hee:m.toList=[]:=List.isEmpty_iff.1 hm
  have hem:(!m.toList.isEmpty)=false:=by simp[hm]
  go_enter Tryz.func216,Tryz.ntmps216
  go_wp2
  go_ret
  exact⟨by simp,by first|exact(Grew.refl W).alloc _|exact((Grew.refl W).alloc _).drew⟩
 | false =>
  have hem:(!m.toList.isEmpty)=true:=by simp[hm]
  go_enter Tryz.func216,Tryz.ntmps216
  go_wp2
  go_ret
  exact⟨by simp,by first|exact(Grew.refl W).alloc _|exact((Grew.refl W).alloc _).drew⟩
theorem enters_tMarked1:∀ args w,(callFunc 216 args).run Tryz.prog w=.ok (.enter 216 args) w:=enters_of Tryz.func216 (by kernel_rfl) rfl
set_option maxHeartbeats 2000000 in
theorem tMarked (l:List Br) (m:ByteArray) (rv bv:Value) (w:World) (hv:SlBr w bv l):Calls Tryz.prog 184 #[.agg #[rv,bv],.string m] w fun e w'=>e=.returned (markV (markedF l m))∧Grew w w':=by
 obtain⟨A,c,rfl,hlc,hc,hr⟩:=hv.open_
 unfold maxLen at hc
 have HR:=Lib.hid hr
 obtain⟨cs,h1,h2,h3⟩:=hv
 have he:markIdx l m=idxP (fun c:BrC=>markP m c.mark) cs:=(idxP_rel cs l h2 (fun i h h'=>by
  have:=congrArg BrC.mark (h3 i h h').1
  simp only [Br.c] at this
  rw[this])).symm
 have hix:=indexFuncB cs (fun c=>markP m c.mark) _ _ enters_tMarked1 (.slice A l.length c) ((w.alloc (.cells #[rv,.slice A l.length c] 43)).alloc (.cells #[.string m] 9)) (h1.mono (((Grew.refl w).alloc _).alloc _)) (fun W x hW _=>tMarked1 (w.heap.size+1) m x W (by
  have:=new_cell (cs:=[.string m]) hW 0 _ rfl
  simpa using this))
 rw[← he] at hix
 have HG0:=Lib.hid (((Grew.refl w).alloc (.cells #[rv,.slice A l.length c] 43)).alloc (.cells #[.string m] 9))
 clear h1 h3 he hr
 cases hO:markedF l m with
 | none =>
  rw[markIdx_none hO] at hix
  have HX:=Lib.hid hix
  unfold markV
  dsimp only [Option.isSome_none]
  clear hix hO
  go_enter Tryz.func184,Tryz.ntmps184
  go_wp2_with fail
  refine HX.out.mono ?_
  rintro e w1 ⟨rfl,g1⟩
  dsimp only
  go_wp2
  go_ret2
  exact⟨rfl,HG0.out.trans g1⟩
 | some b =>
  obtain⟨k,hk,ek,eb⟩:=markIdx_some hO
  rw[ek] at hix
  have HX:=Lib.hid hix
  unfold markV
  dsimp only [Option.isSome_some]
  obtain⟨bb,off,rfl,hbk,hcell⟩:=HR.out (by omega)
  obtain⟨kv,-,hcl⟩:=hcell k hk
  have HC:=Lib.hid (fun W (hW:Grew w W)=>(hcl W hW).1)
  rw[eb] at HC
  have hkz:(k:Int)<(l.length:Int):=by omega
  have h0z:(0:Int)≤(k:Int):=by omega
  clear hix hO ek eb hcell hcl
  go_enter Tryz.func184,Tryz.ntmps184
  go_wp2_with fail
  refine HX.out.mono ?_
  rintro e w1 ⟨rfl,g1⟩
  have HG1:=Lib.hid (HG0.out.trans g1)
  have c0:=HC.out w1 HG1.out
  have t0:=keep_cell g1 (keep_cell ((Grew.refl _).alloc (.cells #[.string m] 9)) (new_cell (Grew.refl (w.alloc (.cells [rv,.slice (some ⟨bb,off,none⟩) l.length c].toArray 43))) 1 _ rfl))
  clear g1
  dsimp only
  go_wp2
  go_ret2
  exact⟨rfl,HG1.out⟩
end Go.Proofs.YtdochkemaiokfaaGreat
/- A unit that is removed, moved or named anew: the tree stays right but for its depth. No condition. -/
namespace Go.Proofs.YtdochkemaiokfaaGreat
open Go.RowKit
theorem mem_without (n x:Int) (l:List Int):x∈withoutF n l↔x∈l∧x≠n:=by
 unfold withoutF
 simp
theorem nodup_without (n:Int) {l:List Int} (h:l.Nodup):(withoutF n l).Nodup:=List.Pairwise.filter _ h
theorem kids_without {t:Tr} (h:SoundM t) {u:Br} (hu:u∈t.brs) (q:Int) (hq:q=0∨∃ b∈t.brs,b.id=q):∀ x,x∈childs (setK t u.parent (withoutF u.id (childs t u.parent))) q↔x∈childs t q∧x≠u.id:=by
 obtain⟨hC,hK⟩:=(sound_parts t).1 h
 have hp:u.parent=0∨∃ b∈t.brs,b.id=u.parent:=by
  rcases (placed_mem hC.asc u).1 (hC.placed u hu) with ⟨h1,_⟩|⟨_,p,hpm,h2,_⟩
  ·exact .inl h1
  ·exact .inr ⟨p,hpm,h2⟩
 intro x
 rw[setK_childs _ _ q hp]
 by_cases hqp:q=u.parent
 ·rw[if_pos hqp,mem_without,hqp]
 ·rw[if_neg hqp]
  refine⟨fun hx=>⟨hx,fun e=>?_⟩,fun hx=>hx.1⟩
  obtain⟨b,hb,h1,h2⟩:=((hK q hq).2 x).1 hx
  have:=asc_same hC.asc hb hu (by rw[h2];exact e)
  subst this
  exact hqp h1.symm
theorem nodup_kids {t:Tr} (h:SoundM t) {u:Br} (hu:u∈t.brs) (q:Int) (hq:q=0∨∃ b∈t.brs,b.id=q):(childs (setK t u.parent (withoutF u.id (childs t u.parent))) q).Nodup:=by
 obtain⟨hC,hK⟩:=(sound_parts t).1 h
 have hp:u.parent=0∨∃ b∈t.brs,b.id=u.parent:=by
  rcases (placed_mem hC.asc u).1 (hC.placed u hu) with ⟨h1,_⟩|⟨_,p,hpm,h2,_⟩
  ·exact .inl h1
  ·exact .inr ⟨p,hpm,h2⟩
 rw[setK_childs _ _ q hp]
 by_cases hqp:q=u.parent
 ·rw[if_pos hqp]
  exact nodup_without _ (hK _ hp).1
 ·rw[if_neg hqp]
  exact(hK q hq).1
theorem remove_sound {t:Tr} {o:Opn} {u:Br} (h:SoundM t) (hu:u∈t.brs) (hid:u.id=o.unit) (hk:u.kids=[]):SoundM (removeT t o u):=by
 obtain⟨hC,hK⟩:=(sound_parts t).1 h
 have hu0:u.id≠0:=unit_pos (hC.units u hu)
 have hw:=kids_without h hu
 have hnd:=nodup_kids h hu
 have hT:=setK_core u.parent (withoutF u.id (childs t u.parent)) hC
 have hids:=setK_ids t u.parent (withoutF u.id (childs t u.parent))
 have hkd:=setK_kids t u.parent (withoutF u.id (childs t u.parent))
 have hno:∀ x,¬ ∃ c∈(setK t u.parent (withoutF u.id (childs t u.parent))).brs,c.parent=u.id∧c.id=x:=by
  have hku:=hK u.id (.inr ⟨u,hu,rfl⟩)
  rw[childs_of hC.asc hu hu0,hk] at hku
  have h2:=(hkd [] u.id).2 hku
  intro x hx
  have:=(h2.2 x).2 hx
  cases this
 unfold removeT
 rw[← hid]
 generalize setK t u.parent (withoutF u.id (childs t u.parent))=t1 at hw hnd hT hids hkd hno ⊢
 have hfil:∀ c,c∈t1.brs.filter (fun b=>!(b.id == u.id))↔c∈t1.brs∧c.id≠u.id:=fun c=>by simp
 have hasc:idsAsc (t1.brs.filter fun b=>!(b.id == u.id)):=List.Pairwise.filter _ hT.asc
 have hpar:∀ c∈t1.brs,c.parent≠u.id:=fun c hc e=>hno c.id ⟨c,hc,e,rfl⟩
 rw[sound_parts]
 refine⟨⟨Nat.le_trans (List.length_filter_le _ _) hT.len,hasc,fun c hc=>hT.units c ((hfil c).1 hc).1,fun c hc d hd=>hT.marks c ((hfil c).1 hc).1 d ((hfil d).1 hd).1,fun c hc=>?_,?_⟩,fun q hq=>?_⟩
 ·have hc1:=(hfil c).1 hc
  rw[placed_mem hasc]
  rcases (placed_mem hT.asc c).1 (hT.placed c hc1.1) with h1|⟨h1,p,hp,h2,h3⟩
  ·exact .inl h1
  ·exact .inr ⟨h1,p,(hfil p).2 ⟨hp,by rw[h2];exact hpar c hc1.1⟩,h2,h3⟩
 ·obtain⟨r,hr⟩:=hT.rank
  exact⟨r,fun c hc=>hr c ((hfil c).1 hc).1⟩
 ·have hqu:q≠u.id:=by
   rcases hq with h1|⟨c,hc,e⟩
   ·rw[h1];exact fun e=>hu0 e.symm
   ·rw[← e];exact((hfil c).1 hc).2
  have hq1:q=0∨∃ b∈t.brs,b.id=q:=by
   rcases hq with h1|⟨c,hc,e⟩
   ·exact .inl h1
   ·exact .inr ((hids q).1 ⟨c,((hfil c).1 hc).1,e⟩)
  have hch:childs ⟨t1.roots,t1.brs.filter fun b=>!(b.id == u.id)⟩ q=childs t1 q:=by
   unfold childs
   split
   ·rfl
   ·show(match brFind (t1.brs.filter fun b=>!(b.id == u.id)) q with
     | none=>[]
     | some b=>b.kids)=_
    cases hf:brFind t1.brs q with
    | none=>rw[(find_none q).2 (fun c hc=>(find_none q).1 hf c ((hfil c).1 hc).1)]
    | some b =>
     have hb:=find_in hf
     rw[(find_iff hasc q b).2 ⟨(hfil b).2 ⟨hb.1,by rw[hb.2];exact hqu⟩,hb.2⟩]
  rw[hch]
  refine⟨hnd q hq1,fun x=>?_⟩
  rw[hw q hq1,((hkd _ q).2 (hK q hq1)).2 x]
  constructor
  ·rintro ⟨⟨c,hc,h1,h2⟩,hx⟩
   exact⟨c,(hfil c).2 ⟨hc,by rw[h2];exact hx⟩,h1,h2⟩
  ·rintro ⟨c,hc,h1,h2⟩
   have hc1:=(hfil c).1 hc
   exact⟨⟨c,hc1.1,h1,h2⟩,by rw[← h2];exact hc1.2⟩
theorem label_sound {t:Tr} (h:SoundM t) (n:Int) (f:Br→Br) (hf:∀ b,(f b).id=b.id∧(f b).parent=b.parent∧(f b).level=b.level∧(f b).kids=b.kids) (hu:∀ b∈t.brs,b.id=n→UnitOk (f b))
  (hm:∀ b∈t.brs,b.id=n→∀ c∈t.brs,c.id≠n→(f b).mark.toList.isEmpty=false→(f b).mark.toList≠c.mark.toList):SoundM (setU t n f):=by
 obtain⟨hC,hK⟩:=(sound_parts t).1 h
 have e1:∀ b,(if b.id=n then f b else b).id=b.id:=fun b=>by split<;>simp[hf]
 have e2:∀ b,(if b.id=n then f b else b).parent=b.parent:=fun b=>by split<;>simp[hf]
 have e3:∀ b,(if b.id=n then f b else b).level=b.level:=fun b=>by split<;>simp[hf]
 have e4:∀ b,(if b.id=n then f b else b).kids=b.kids:=fun b=>by split<;>simp[hf]
 have hasc:idsAsc (t.brs.map fun b=>if b.id=n then f b else b):=List.Pairwise.map _ (fun a b hab=>by rw[e1,e1];exact hab) hC.asc
 rw[sound_parts]
 unfold setU
 refine⟨⟨by rw[List.length_map];exact hC.len,hasc,fun c hc=>?_,fun c hc d hd hne he=>?_,fun c hc=>?_,?_⟩,fun q hq=>?_⟩
 ·obtain⟨b,hb,rfl⟩:=List.mem_map.1 hc
  by_cases hbn:b.id=n
  ·rw[if_pos hbn];exact hu b hb hbn
  ·rw[if_neg hbn];exact hC.units b hb
 ·obtain⟨b,hb,rfl⟩:=List.mem_map.1 hc
  obtain⟨b2,hb2,rfl⟩:=List.mem_map.1 hd
  rw[e1,e1]
  by_cases hbn:b.id=n<;>by_cases hbn2:b2.id=n
  ·rw[hbn,hbn2]
  ·rw[if_pos hbn] at hne he
   rw[if_neg hbn2] at he
   exact absurd he (hm b hb hbn b2 hb2 hbn2 hne)
  ·rw[if_neg hbn] at hne he
   rw[if_pos hbn2] at he
   exact absurd he.symm (hm b2 hb2 hbn2 b hb hbn (by rw[← he];exact hne))
  ·rw[if_neg hbn] at hne he
   rw[if_neg hbn2] at he
   exact hC.marks b hb b2 hb2 hne he
 ·obtain⟨b,hb,rfl⟩:=List.mem_map.1 hc
  rw[placed_mem hasc,e2,e3]
  rcases (placed_mem hC.asc b).1 (hC.placed b hb) with h1|⟨h1,p,hp,h2,h3⟩
  ·exact .inl h1
  ·exact .inr ⟨h1,_,List.mem_map.2 ⟨p,hp,rfl⟩,by rw[e1];exact h2,by rw[e3];exact h3⟩
 ·obtain⟨r,hr⟩:=hC.rank
  refine⟨r,fun c hc=>?_⟩
  obtain⟨b,hb,rfl⟩:=List.mem_map.1 hc
  rw[e1,e2]
  exact hr b hb
 ·have hq1:q=0∨∃ b∈t.brs,b.id=q:=by
   rcases hq with h1|⟨c,hc,e⟩
   ·exact .inl h1
   ·obtain⟨b,hb,rfl⟩:=List.mem_map.1 hc
    exact .inr ⟨b,hb,by rw[← e,e1]⟩
  have hch:childs ⟨t.roots,t.brs.map fun b=>if b.id=n then f b else b⟩ q=childs t q:=by
   unfold childs
   split
   ·rfl
   ·show(match brFind (t.brs.map fun b=>if b.id=n then f b else b) q with
     | none=>[]
     | some b=>b.kids)=_
    rw[find_map _ e1]
    cases brFind t.brs q with
    | none=>rfl
    | some b=>exact e4 b
  rw[hch]
  refine⟨(hK q hq1).1,fun x=>?_⟩
  rw[(hK q hq1).2 x]
  constructor
  ·rintro ⟨c,hc,h1,h2⟩
   exact⟨_,List.mem_map.2 ⟨c,hc,rfl⟩,by rw[e2];exact h1,by rw[e1];exact h2⟩
  ·rintro ⟨c,hc,h1,h2⟩
   obtain⟨b,hb,rfl⟩:=List.mem_map.1 hc
   exact⟨b,hb,by rw[← h1,e2],by rw[← h2,e1]⟩
end Go.Proofs.YtdochkemaiokfaaGreat
/- A unit that is moved: the tree stays right but for its depth. No condition. -/
namespace Go.Proofs.YtdochkemaiokfaaGreat
open Go.RowKit
inductive UnderT (l:List Br) (n:Int):Int→Prop
 | self:UnderT l n n
 | step {b:Br}:b∈l→b.parent≠0→UnderT l n b.parent→UnderT l n b.id
theorem under_parent {l:List Br} (h:idsAsc l) {n:Int} {b:Br} (hb:b∈l) (hne:b.id≠n) (hu:UnderT l n b.id):b.parent≠0∧UnderT l n b.parent:=by
 generalize hx:b.id=x at hu
 cases hu with
 | self=>exact absurd hx hne
 | @step c hc hp hu =>
  have:=asc_same h hb hc hx
  subst this
  exact⟨hp,hu⟩
structure CanMove (t:Tr) (o:Opn) (u:Br):Prop where
 mem:u∈t.brs
 id:u.id=o.unit
 stands:StandsT t.brs o.parent u.level
 notBelow:¬ UnderT t.brs o.unit o.parent
 before:o.before≠0→o.before∈withoutF o.unit (childs t o.parent)
theorem without_no {n:Int} {l:List Int} (h:n∉l):withoutF n l=l:=by
 unfold withoutF
 rw[List.filter_eq_self]
 intro x hx
 simp
 rintro rfl
 exact h hx
theorem childs_taken {t:Tr} (h:SoundM t) {u:Br} (hu:u∈t.brs) (q:Int) (hq:q=0∨∃ b∈t.brs,b.id=q):childs (setK t u.parent (withoutF u.id (childs t u.parent))) q=withoutF u.id (childs t q):=by
 obtain⟨hC,hK⟩:=(sound_parts t).1 h
 have hp:u.parent=0∨∃ b∈t.brs,b.id=u.parent:=by
  rcases (placed_mem hC.asc u).1 (hC.placed u hu) with ⟨h1,_⟩|⟨_,p,hpm,h2,_⟩
  ·exact .inl h1
  ·exact .inr ⟨p,hpm,h2⟩
 rw[setK_childs _ _ q hp]
 by_cases hqp:q=u.parent
 ·rw[if_pos hqp,hqp]
 ·rw[if_neg hqp,without_no]
  intro hm
  obtain⟨b,hb,h1,h2⟩:=((hK q hq).2 u.id).1 hm
  have:=asc_same hC.asc hb hu h2
  subst this
  exact hqp h1.symm
theorem move_sound {t:Tr} {o:Opn} {u:Br} (h:SoundM t) (hc:CanMove t o u):SoundM (moveT t o u):=by
 obtain⟨hC,hK⟩:=(sound_parts t).1 h
 have hu:=hc.mem
 have hu0:u.id≠0:=unit_pos (hC.units u hu)
 have hp:o.parent=0∨∃ b∈t.brs,b.id=o.parent:=by
  rcases hc.stands with ⟨h1,_⟩|⟨_,q,hq,h2,_⟩
  ·exact .inl h1
  ·exact .inr ⟨q,hq,h2⟩
 have htk:=childs_taken h hu
 have hT1:=setK_core u.parent (withoutF u.id (childs t u.parent)) hC
 have hids1:=setK_ids t u.parent (withoutF u.id (childs t u.parent))
 have hkd1:=setK_kids t u.parent (withoutF u.id (childs t u.parent))
 have hbr1:=setK_brs t u.parent (withoutF u.id (childs t u.parent))
 unfold moveT
 rw[← hc.id]
 generalize setK t u.parent (withoutF u.id (childs t u.parent))=t1 at htk hT1 hids1 hkd1 hbr1 ⊢
 have hp1:o.parent=0∨∃ b∈t1.brs,b.id=o.parent:=by
  rcases hp with h1|h1
  ·exact .inl h1
  ·exact .inr ((hids1 _).2 h1)
 have hT2:=setK_core o.parent (putF u.id o.before (childs t1 o.parent)) hT1
 have hids2:=setK_ids t1 o.parent (putF u.id o.before (childs t1 o.parent))
 have hkd2:=setK_kids t1 o.parent (putF u.id o.before (childs t1 o.parent))
 have hch2:=fun q=>setK_childs (t:=t1) o.parent (putF u.id o.before (childs t1 o.parent)) q hp1
 have hbr2:=setK_brs t1 o.parent (putF u.id o.before (childs t1 o.parent))
 simp only
 generalize setK t1 o.parent (putF u.id o.before (childs t1 o.parent))=t2 at hT2 hids2 hkd2 hch2 hbr2 ⊢
 -- the units of the three trees are the same but for their children
 have hm12:∀(l:List Br) (p:Int) (ks:List Int) (m:List Br),m=(if p=0 then l else l.map (kidG p ks))→(∀ c∈m,∃ d∈l,core c=core d)∧∀ d∈l,∃ c∈m,core c=core d:=by
  rintro l p ks m rfl
  split
  ·exact⟨fun c hc=>⟨c,hc,rfl⟩,fun d hd=>⟨d,hd,rfl⟩⟩
  ·refine⟨fun c hc=>?_,fun d hd=>⟨_,List.mem_map.2 ⟨d,hd,rfl⟩,kidG_core _ _ d⟩⟩
   obtain⟨d,hd,rfl⟩:=List.mem_map.1 hc
   exact⟨d,hd,kidG_core _ _ d⟩
 have hm1:=hm12 _ _ _ _ hbr1
 have hm2:=hm12 _ _ _ _ hbr2
 have down:∀ c∈t2.brs,∃ d∈t.brs,core c=core d:=fun c hcm=>by
  obtain⟨d,hd,e⟩:=hm2.1 c hcm
  obtain⟨d2,hd2,e2⟩:=hm1.1 d hd
  exact⟨d2,hd2,e.trans e2⟩
 have up:∀ d∈t.brs,∃ c∈t2.brs,core c=core d:=fun d hd=>by
  obtain⟨c,hcm,e⟩:=hm1.2 d hd
  obtain⟨c2,hc2,e2⟩:=hm2.2 c hcm
  exact⟨c2,hc2,e2.trans e⟩
 clear hm12 hbr1 hbr2
 have e1:∀ b:Br,(if b.id=u.id then { b with parent:=o.parent } else b).id=b.id:=fun b=>by split<;>rfl
 have e3:∀ b:Br,(if b.id=u.id then { b with parent:=o.parent } else b).level=b.level:=fun b=>by split<;>rfl
 have e4:∀ b:Br,(if b.id=u.id then { b with parent:=o.parent } else b).kids=b.kids:=fun b=>by split<;>rfl
 have e5:∀ b:Br,(if b.id=u.id then { b with parent:=o.parent } else b).title=b.title:=fun b=>by split<;>rfl
 have e6:∀ b:Br,(if b.id=u.id then { b with parent:=o.parent } else b).mark=b.mark:=fun b=>by split<;>rfl
 have hasc:idsAsc (t2.brs.map fun b=>if b.id=u.id then { b with parent:=o.parent } else b):=List.Pairwise.map _ (fun a b hab=>by rw[e1,e1];exact hab) hT2.asc
 rw[sound_parts]
 unfold setU
 refine⟨⟨by rw[List.length_map];exact hT2.len,hasc,fun c hcm=>?_,fun c hcm d hdm hne he=>?_,fun c hcm=>?_,?_⟩,fun q hq=>?_⟩
 ·obtain⟨b,hb,rfl⟩:=List.mem_map.1 hcm
  have:=hT2.units b hb
  unfold UnitOk at this ⊢
  rw[e1,e3,e5,e6]
  exact this
 ·obtain⟨b,hb,rfl⟩:=List.mem_map.1 hcm
  obtain⟨b2,hb2,rfl⟩:=List.mem_map.1 hdm
  rw[e6] at hne he
  rw[e6] at he
  rw[e1,e1]
  exact hT2.marks b hb b2 hb2 hne he
 ·obtain⟨b,hb,rfl⟩:=List.mem_map.1 hcm
  rw[placed_mem hasc,e3]
  have hst:∀ p lv,StandsT t2.brs p lv→(p=0∧lv=1)∨(p≠0∧∃ q∈t2.brs.map (fun b=>if b.id=u.id then { b with parent:=o.parent } else b),q.id=p∧fitsF q.level lv=true):=by
   rintro p lv (h1|⟨h1,q,hq,h2,h3⟩)
   ·exact .inl h1
   ·exact .inr ⟨h1,_,List.mem_map.2 ⟨q,hq,rfl⟩,by rw[e1];exact h2,by rw[e3];exact h3⟩
  by_cases hbu:b.id=u.id
  ·rw[if_pos hbu]
   refine hst _ _ ?_
   have hl:b.level=u.level:=by
    obtain⟨d,hd,e⟩:=down b hb
    have:=asc_same hC.asc hd hu (by rw[← (core_all e).1];exact hbu)
    rw[(core_all e).2.2.1,this]
   rw[hl]
   rcases hc.stands with h1|⟨h1,q,hq,h2,h3⟩
   ·exact .inl h1
   ·obtain⟨c,hcm2,e⟩:=up q hq
    exact .inr ⟨h1,c,hcm2,by rw[(core_all e).1];exact h2,by rw[(core_all e).2.2.1];exact h3⟩
  ·rw[if_neg hbu]
   exact hst _ _ ((placed_mem hT2.asc b).1 (hT2.placed b hb))
 ·obtain⟨r,hr⟩:=hC.rank
  classical
  refine⟨fun x=>if UnderT t.brs u.id x then r x+(r o.parent+1) else r x,fun c hcm hpn=>?_⟩
  obtain⟨b,hb,rfl⟩:=List.mem_map.1 hcm
  obtain⟨d,hd,e⟩:=down b hb
  have hid:=(core_all e).1
  have hpar:=(core_all e).2.1
  rw[e1]
  by_cases hbu:b.id=u.id
  ·rw[if_pos hbu] at hpn ⊢
   simp only
   rw[hbu,if_neg (by rw[hc.id];exact hc.notBelow),if_pos UnderT.self]
   omega
  ·rw[if_neg hbu] at hpn ⊢
   have hlt:=hr d hd (by rw[← hpar];exact hpn)
   rw[← hpar,← hid] at hlt
   have hiff:UnderT t.brs u.id b.id↔UnderT t.brs u.id b.parent:=by
    rw[hid,hpar]
    constructor
    ·exact fun hx=>(under_parent hC.asc hd (by rw[← hid];exact hbu) hx).2
    ·exact fun hx=>UnderT.step hd (by rw[← hpar];exact hpn) hx
   simp only
   by_cases hx:UnderT t.brs u.id b.parent
   ·rw[if_pos hx,if_pos (hiff.2 hx)]
    omega
   ·rw[if_neg hx,if_neg (fun h=>hx (hiff.1 h))]
    exact hlt
 ·have hq1:q=0∨∃ b∈t.brs,b.id=q:=by
   rcases hq with h1|⟨c,hcm,e⟩
   ·exact .inl h1
   ·obtain⟨b,hb,rfl⟩:=List.mem_map.1 hcm
    obtain⟨d,hd,e2⟩:=down b hb
    exact .inr ⟨d,hd,by rw[← (core_all e2).1,← e,e1]⟩
  have hch:childs ⟨t2.roots,t2.brs.map fun b=>if b.id=u.id then { b with parent:=o.parent } else b⟩ q=childs t2 q:=by
   unfold childs
   split
   ·rfl
   ·show(match brFind (t2.brs.map fun b=>if b.id=u.id then { b with parent:=o.parent } else b) q with
     | none=>[]
     | some b=>b.kids)=_
    rw[find_map _ e1]
    cases brFind t2.brs q with
    | none=>rfl
    | some b=>exact e4 b
  have hKq:=hK q hq1
  have hset:∀ x,(∃ c∈t2.brs.map (fun b=>if b.id=u.id then { b with parent:=o.parent } else b),c.parent=q∧c.id=x)↔(x=u.id∧o.parent=q)∨(x≠u.id∧x∈childs t q):=by
   intro x
   rw[hKq.2 x]
   constructor
   ·rintro ⟨c,hcm,h1,h2⟩
    obtain⟨b,hb,rfl⟩:=List.mem_map.1 hcm
    rw[e1] at h2
    by_cases hbu:b.id=u.id
    ·rw[if_pos hbu] at h1
     exact .inl ⟨by rw[← h2];exact hbu,h1⟩
    ·rw[if_neg hbu] at h1
     obtain⟨d,hd,e⟩:=down b hb
     exact .inr ⟨by rw[← h2];exact hbu,d,hd,by rw[← (core_all e).2.1];exact h1,by rw[← (core_all e).1];exact h2⟩
   ·rintro (⟨h1,h2⟩|⟨h1,d,hd,h2,h3⟩)
    ·obtain⟨c,hcm,e⟩:=up u hu
     refine⟨_,List.mem_map.2 ⟨c,hcm,rfl⟩,?_,by rw[e1,(core_all e).1];exact h1.symm⟩
     rw[if_pos (core_all e).1]
     exact h2
    ·obtain⟨c,hcm,e⟩:=up d hd
     have hcu:c.id≠u.id:=by rw[(core_all e).1,h3];exact h1
     refine⟨_,List.mem_map.2 ⟨c,hcm,rfl⟩,?_,by rw[e1,(core_all e).1];exact h3⟩
     rw[if_neg hcu,(core_all e).2.1]
     exact h2
  have h00:(0:Int)∉childs t1 o.parent:=fun hm=>by
   rw[htk o.parent hp,mem_without] at hm
   obtain⟨b,hb,_,e⟩:=((hK _ hp).2 0).1 hm.1
   exact unit_pos (hC.units b hb) e
  have hbf:o.before≠0→o.before∈childs t1 o.parent:=fun hb=>by
   rw[htk o.parent hp,hc.id]
   exact hc.before hb
  have hnu:u.id∉childs t1 o.parent:=fun hm=>by
   rw[htk o.parent hp,mem_without] at hm
   exact hm.2 rfl
  have hnd1:(childs t1 o.parent).Nodup:=by
   rw[htk o.parent hp]
   exact nodup_without _ (hK _ hp).1
  rw[hch,hch2 q]
  unfold KidsAre
  simp only [hset]
  by_cases hqp:q=o.parent
  ·rw[if_pos hqp]
   refine⟨nodup_putF (fun _=>h00) hbf hnd1 hnu,fun x=>?_⟩
   rw[mem_putF (fun _=>h00) hbf,htk o.parent hp,mem_without,← hqp]
   constructor
   ·rintro (h1|⟨h1,h2⟩)
    ·exact .inl ⟨h1,rfl⟩
    ·exact .inr ⟨h2,h1⟩
   ·rintro (⟨h1,_⟩|⟨h1,h2⟩)
    ·exact .inl h1
    ·exact .inr ⟨h2,h1⟩
  ·rw[if_neg hqp,htk q hq1]
   refine⟨nodup_without _ hKq.1,fun x=>?_⟩
   rw[mem_without]
   constructor
   ·rintro ⟨h1,h2⟩
    exact .inr ⟨h2,h1⟩
   ·rintro (⟨_,h2⟩|⟨h1,h2⟩)
    ·exact absurd h2.symm hqp
    ·exact⟨h2,h1⟩
end Go.Proofs.YtdochkemaiokfaaGreat
/- A unit and all that are below it, in order: just the units under it. No condition. -/
namespace Go.Proofs.YtdochkemaiokfaaGreat
open Go.RowKit
def belowL (t:Tr):Nat→Int→List Int
 | 0,n=>[n]
 | f+1,n=>n::(childs t n).flatMap (belowL t f)
def belowT (t:Tr) (n:Int):List Int:=if n=0 then t.roots.flatMap (belowL t t.brs.length) else belowL t t.brs.length n
theorem under_trans {l:List Br} {a b c:Int} (h1:UnderT l a b) (h2:UnderT l b c):UnderT l a c:=by
 induction h2 with
 | self=>exact h1
 | step hb hp _ ih=>exact UnderT.step hb hp ih
theorem childs_mem {t:Tr} (h:SoundM t) {n x:Int} (hn:n=0∨∃ b∈t.brs,b.id=n):x∈childs t n↔∃ c∈t.brs,c.parent=n∧c.id=x :=
 ((sound_parts t).1 h |>.2 n hn).2 x
theorem under_first {t:Tr} (h:SoundM t) {n x:Int} (hni:∃ b∈t.brs,b.id=n) (hu:UnderT t.brs n x):x=n∨∃ k∈childs t n,UnderT t.brs k x:=by
 induction hu with
 | self=>exact .inl rfl
 | @step b hb hp _ ih =>
  rcases ih with e|⟨k,hk,hu⟩
  ·exact .inr ⟨b.id,(childs_mem h (.inr hni)).2 ⟨b,hb,e,rfl⟩,UnderT.self⟩
  ·exact .inr ⟨k,hk,UnderT.step hb hp hu⟩
theorem deep_child {t:Tr} (h:SoundM t) {b c:Br} {d:Nat} (hb:b∈t.brs) (hc:c∈t.brs) (hp:c.parent=b.id) (hd:deep t.brs t.brs.length b=some d):deep t.brs t.brs.length c=some (d+1):=by
 have hb0:=unit_pos (h.units b hb)
 have h1:deep t.brs (t.brs.length+1) c=some (d+1):=by
  unfold deep
  rw[if_neg (by rw[hp];exact hb0),hp,find_byid h.asc hb]
  show(deep t.brs t.brs.length b).map (· + 1)=_
  rw[hd]
  rfl
 exact(deep_mono _ c _ h1).2 _ (by have:=deep_le h.asc hc h1;omega)
theorem deep_some {t:Tr} (h:SoundM t) {b:Br} (hb:b∈t.brs):∃ d,deep t.brs t.brs.length b=some d∧d≤t.brs.length:=by
 have h2:=(sound_iff t).2 h
 have:=(all_mem (P:=fun b=>(deep t.brs t.brs.length b).isSome=true)).1 h2.2.2.2.2.2 b hb
 obtain⟨d,hd⟩:=Option.isSome_iff_exists.1 this
 exact⟨d,hd,deep_le h.asc hb hd⟩
theorem mem_belowL {t:Tr} (h:SoundM t):∀(f:Nat) (b:Br) (d:Nat),b∈t.brs→deep t.brs t.brs.length b=some d→t.brs.length≤f+d→∀ x,x∈belowL t f b.id↔UnderT t.brs b.id x:=by
 intro f
 induction f with
 | zero =>
  intro b d hb hd hf x
  unfold belowL
  rw[List.mem_singleton]
  constructor
  ·rintro rfl;exact UnderT.self
  ·intro hu
   rcases under_first h ⟨b,hb,rfl⟩ hu with e|⟨k,hk,_⟩
   ·exact e
   ·exfalso
    obtain⟨c,hc,hp,_⟩:=(childs_mem h (.inr ⟨b,hb,rfl⟩)).1 hk
    have h1:=deep_child h hb hc hp hd
    have h2:=deep_le h.asc hc h1
    omega
 | succ f ih =>
  intro b d hb hd hf x
  unfold belowL
  rw[List.mem_cons,List.mem_flatMap]
  have hkid:∀ k,k∈childs t b.id→∃ c∈t.brs,c.parent=b.id∧c.id=k∧∀ x,x∈belowL t f k↔UnderT t.brs k x:=by
   intro k hk
   obtain⟨c,hc,hp,e⟩:=(childs_mem h (.inr ⟨b,hb,rfl⟩)).1 hk
   refine⟨c,hc,hp,e,fun x=>?_⟩
   rw[← e]
   exact ih c (d+1) hc (deep_child h hb hc hp hd) (by omega) x
  constructor
  ·rintro (rfl|⟨k,hk,hx⟩)
   ·exact UnderT.self
   ·obtain⟨c,hc,hp,e,hiff⟩:=hkid k hk
    refine under_trans ?_ ((hiff x).1 hx)
    rw[← e]
    exact UnderT.step hc (by rw[hp];exact unit_pos (h.units b hb)) (by rw[hp];exact UnderT.self)
  ·intro hu
   rcases under_first h ⟨b,hb,rfl⟩ hu with e|⟨k,hk,hx⟩
   ·exact .inl e
   ·obtain⟨c,hc,hp,e,hiff⟩:=hkid k hk
    exact .inr ⟨k,hk,(hiff x).2 hx⟩
theorem mem_below {t:Tr} (h:SoundM t) {b:Br} (hb:b∈t.brs) (x:Int):x∈belowT t b.id↔UnderT t.brs b.id x:=by
 obtain⟨d,hd,_⟩:=deep_some h hb
 unfold belowT
 rw[if_neg (unit_pos (h.units b hb))]
 exact mem_belowL h _ b d hb hd (by omega) x
end Go.Proofs.YtdochkemaiokfaaGreat
/- What an operation does to a tree, plainly: its faults in order, and the tree behind it, which is right but for its depth. No condition. -/
namespace Go.Proofs.YtdochkemaiokfaaGreat
open Go.RowKit
def markE (l:List UInt8):Bool:=decide (l.length≤64) && allIn 33 126 l
def originF (f a n:Int):Bool:=within f 0 1073741824 && ((within a 1 1073741824 && within n 1 9999) || (a == 0 && n == 0))
def noOrigin (o:Opn):Bool:=o.office == 0 && (o.acc == 0 && o.num == 0)
def noPlace (o:Opn):Bool:=o.parent == 0 && (o.before == 0 && o.level == 0)
def placeF (o:Opn):Bool:=within o.parent 0 1073741824 && within o.before 0 1073741824
def emptyS (s:ByteArray):Bool:=s.toList.isEmpty
def kindF (o:Opn):Bool :=
 if o.kind=1 then placeF o && (within o.level 1 4 && (nameF o.title.data.toList && (markE o.mark.data.toList && originF o.office o.acc o.num)))
 else if o.kind=2 then placeF o && (o.level == 0 && (emptyS o.title && (emptyS o.mark && noOrigin o)))
 else if o.kind=3 then nameF o.title.data.toList && (noPlace o && (emptyS o.mark && noOrigin o))
 else if o.kind=4 then markE o.mark.data.toList && (noPlace o && (emptyS o.title && noOrigin o))
 else if o.kind=5∨o.kind=6 then noPlace o && (emptyS o.title && (emptyS o.mark && noOrigin o))
 else false
def formedO (o:Opn):Bool:=within o.id 1 1073741824 && (within o.day 0 1048575 && (within o.unit 1 1073741824 && kindF o))
def standsB (t:Tr) (parent level:Int):Bool:=if parent=0 then level == 1 else match brFind t.brs parent with
 | none=>false
 | some p=>fitsF p.level level
def usedB (t:Tr) (m:ByteArray) (but:Int):Bool:=!m.toList.isEmpty && t.brs.any fun b=>b.mark.toList == m.toList && !(b.id == but)
def faultC (t:Tr) (o:Opn):Int :=
 if (brFind t.brs o.unit).isSome=true then 6
 else if o.parent≠0∧(brFind t.brs o.parent).isSome=false then 7
 else if standsB t o.parent o.level=false then 18
 else if o.before≠0∧o.before∉childs t o.parent then 7
 else if usedB t o.mark 0=true then 19
 else if 256≤t.brs.length then 8 else 0
def faultM (t:Tr) (o:Opn):Int:=match brFind t.brs o.unit with
 | none=>7
 | some u =>
  if o.parent≠0∧(brFind t.brs o.parent).isSome=false then 7
  else if o.parent∈belowT t o.unit then 17
  else if standsB t o.parent u.level=false then 18
  else if o.before≠0∧(o.before=o.unit∨o.before∉childs t o.parent) then 7 else 0
def faultL (t:Tr) (o:Opn):Int:=match brFind t.brs o.unit with
 | none=>7
 | some _=>if o.kind=4∧usedB t o.mark o.unit=true then 19 else 0
def faultR (t:Tr) (o:Opn):Int:=match brFind t.brs o.unit with
 | none=>7
 | some u=>if u.kids≠[] then 11 else 0
def faultO (t:Tr) (o:Opn):Int:=if o.kind=1 then faultC t o else if o.kind=2 then faultM t o else if o.kind=5 then faultR t o else faultL t o
def newT (t:Tr) (o:Opn):Tr :=
 if o.kind=1 then createT t o else match brFind t.brs o.unit with
  | none=>t
  | some u=>if o.kind=2 then moveT t o u else if o.kind=5 then removeT t o u
   else if o.kind=3 then setU t o.unit fun b=>{ b with title:=o.title } else setU t o.unit fun b=>{ b with mark:=o.mark }
open Classical in
noncomputable def applyR (t:Tr) (o:Opn):Tr × Int :=
 if ¬ RightT t∨formedO o=false∨o.kind=6 then(⟨[],[]⟩,1) else if faultO t o≠0 then(⟨[],[]⟩,faultO t o) else if RightT (newT t o) then(newT t o,0) else(⟨[],[]⟩,15)
theorem stands_iff {t:Tr} (h:idsAsc t.brs) (p lv:Int):standsB t p lv=true↔StandsT t.brs p lv:=by
 unfold standsB StandsT
 by_cases hp:p=0
 ·simp[hp]
 ·rw[if_neg hp]
  cases hf:brFind t.brs p with
  | none =>
   have:=(find_none p).1 hf
   simp only [Bool.false_eq_true,false_iff]
   rintro (⟨h1,_⟩|⟨_,q,hq,h2,_⟩)
   ·exact hp h1
   ·exact this q hq h2
  | some q =>
   have hq:=find_in hf
   constructor
   ·exact fun h1=>.inr ⟨hp,q,hq.1,hq.2,h1⟩
   ·rintro (⟨h1,_⟩|⟨_,q2,hq2,h2,h3⟩)
    ·exact absurd h1 hp
    ·have:=asc_same h hq2 hq.1 (by rw[h2,hq.2])
     subst this
     exact h3
theorem used_no {t:Tr} {m:ByteArray} {but:Int} (h:usedB t m but=false):∀ c∈t.brs,c.id≠but→m.toList.isEmpty=false→m.toList≠c.mark.toList:=by
 intro c hc hne hm he
 unfold usedB at h
 rw[hm] at h
 simp only [Bool.not_false,Bool.true_and,List.any_eq_false] at h
 have:=h c hc
 rw[← he] at this
 simp[hne] at this
theorem markE_ok {m:ByteArray} (h:markE m.data.toList=true):m.toList.isEmpty=false→markF m.data.toList=true:=by
 intro hne
 unfold markE at h
 unfold markF
 rw[Bool.and_eq_true,decide_eq_true_eq] at h
 rw[Bool.and_eq_true,decide_eq_true_eq]
 refine⟨⟨?_,h.1⟩,h.2⟩
 by_cases h0:m.data.toList.length=0
 ·exfalso
  have h1:m.data.toList=[]:=List.eq_nil_of_length_eq_zero h0
  have h2:m.toList=[]:=by
   rw[← h1,ByteArray.toList_eq]
  rw[h2] at hne
  cases hne
 ·omega
theorem newT_sound {t:Tr} {o:Opn} (h:SoundM t) (hf:formedO o=true) (h6:o.kind≠6) (h0:faultO t o=0):SoundM (newT t o):=by
 obtain⟨hC,hK⟩:=(sound_parts t).1 h
 unfold formedO at hf
 simp only [Bool.and_eq_true] at hf
 obtain⟨-,-,hu,hk⟩:=hf
 unfold kindF at hk
 unfold faultO at h0
 unfold newT
 by_cases h1:o.kind=1
 ·rw[if_pos h1] at hk h0 ⊢
  simp only [Bool.and_eq_true] at hk
  unfold faultC at h0
  split at h0
  ·simp at h0
  ·rename_i e1
   split at h0
   ·simp at h0
   ·split at h0
    ·simp at h0
    ·rename_i e3
     split at h0
     ·simp at h0
     ·rename_i e4
      split at h0
      ·simp at h0
      ·rename_i e5
       split at h0
       ·simp at h0
       ·rename_i e6
        refine create_sound h ⟨?_,⟨hu,hk.2.1,hk.2.2.1,markE_ok hk.2.2.2.1⟩,(stands_iff hC.asc _ _).1 (by simpa using e3),fun hb=>?_,fun c hc hne=>?_,by omega⟩
        ·have:brFind t.brs o.unit=none:=by simpa using e1
         exact(find_none _).1 this
        ·by_cases hm:o.before∈childs t o.parent
         ·exact hm
         ·exact absurd ⟨hb,hm⟩ e4
        ·exact(used_no (by simpa using e5) c hc (fun e=>unit_pos (hC.units c hc) e) hne).symm
 ·rw[if_neg h1] at hk h0 ⊢
  cases hb:brFind t.brs o.unit with
  | none =>
   exfalso
   unfold faultM faultR faultL at h0
   rw[hb] at h0
   simp only [ite_self] at h0
   cases h0
  | some u =>
   have hin:=find_in hb
   show SoundM (if o.kind=2 then moveT t o u else if o.kind=5 then removeT t o u else if o.kind=3 then setU t o.unit fun b=>{ b with title:=o.title } else setU t o.unit fun b=>{ b with mark:=o.mark })
   by_cases h2:o.kind=2
   ·rw[if_pos h2] at h0 ⊢
    unfold faultM at h0
    rw[hb] at h0
    simp only at h0
    split at h0
    ·simp at h0
    ·rename_i e1
     split at h0
     ·simp at h0
     ·rename_i e2
      split at h0
      ·simp at h0
      ·rename_i e3
       split at h0
       ·simp at h0
       ·rename_i e4
        refine move_sound h ⟨hin.1,hin.2,(stands_iff hC.asc _ _).1 (by simpa using e3),fun hud=>?_,fun hbf=>?_⟩
        ·rw[← hin.2] at hud e2
         exact e2 ((mem_below h hin.1 _).2 hud)
        ·rw[mem_without]
         by_cases hm:o.before∈childs t o.parent
         ·exact⟨hm,fun e=>e4 ⟨hbf,.inl e⟩⟩
         ·exact absurd ⟨hbf,.inr hm⟩ e4
   ·rw[if_neg h2] at h0 ⊢
    by_cases h5:o.kind=5
    ·rw[if_pos h5] at h0 ⊢
     unfold faultR at h0
     rw[hb] at h0
     simp only at h0
     split at h0
     ·simp at h0
     ·rename_i e1
      exact remove_sound h hin.1 hin.2 (by simpa using e1)
    ·rw[if_neg h5] at h0 ⊢
     rw[if_neg h2] at hk
     have hun:∀ b∈t.brs,b.id=o.unit→UnitOk b:=fun b hbm _=>hC.units b hbm
     by_cases h3:o.kind=3
     ·rw[if_pos h3] at hk ⊢
      simp only [Bool.and_eq_true] at hk
      refine label_sound h _ _ (fun b=>⟨rfl,rfl,rfl,rfl⟩) (fun b hbm e=>?_) (fun b hbm e c hc hne hme=>?_)
      ·obtain⟨a1,a2,_,a4⟩:=hun b hbm e
       exact⟨a1,a2,hk.1,a4⟩
      ·intro he
       exact hne (by rw[← hC.marks b hbm c hc hme he];exact e)
     ·rw[if_neg h3] at hk ⊢
      by_cases h4:o.kind=4
      ·rw[if_pos h4] at hk
       simp only [Bool.and_eq_true] at hk
       unfold faultL at h0
       rw[hb] at h0
       simp only at h0
       split at h0
       ·simp at h0
       ·rename_i e1
        refine label_sound h _ _ (fun b=>⟨rfl,rfl,rfl,rfl⟩) (fun b hbm e=>?_) (fun b hbm e c hc hne hme=>?_)
        ·obtain⟨a1,a2,a3,_⟩:=hun b hbm e
         exact⟨a1,a2,a3,markE_ok hk.1⟩
        ·have hus:usedB t o.mark o.unit=false:=by
          rw[← Bool.not_eq_true]
          exact fun hx=>e1 ⟨h4,hx⟩
         exact used_no hus c hc hne hme
      ·exfalso
       have h56:¬ (o.kind=5∨o.kind=6):=fun h=>h.elim h5 h6
       rw[if_neg h4,if_neg h56] at hk
       cases hk
theorem applyR_right {t:Tr} {o:Opn} (h:(applyR t o).2=0):RightT t∧RightT (applyR t o).1:=by
 unfold applyR at h ⊢
 split at h
 ·simp at h
 ·rename_i e1
  rw[if_neg e1]
  split at h
  ·rename_i e2
   exact absurd h e2
  ·rename_i e2
   rw[if_neg e2]
   split at h
   ·rename_i e3
    rw[if_pos e3]
    refine⟨?_,e3⟩
    exact Classical.byContradiction fun hn=>e1 (.inl hn)
   ·simp at h
end Go.Proofs.YtdochkemaiokfaaGreat