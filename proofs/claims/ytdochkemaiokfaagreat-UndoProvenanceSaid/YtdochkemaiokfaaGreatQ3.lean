/- Lemmas on what the functions of the program and of the library compute: EqR, App, App2, T4, Gr2, T5, A5, T6, A6. The conditions stand at each. -/
import Derived.Test.YtdochkemaiokfaaGreatProg
import Derived.Test.YtdochkemaiokfaaGreatQ1
import Derived.Test.YtdochkemaiokfaaGreatQ2
import Derived.Deep.RegionHeld3
/- slices.Equal at numbers. No condition. -/
namespace Go.Proofs.YtdochkemaiokfaaGreat
open Go.RowKit
set_option maxHeartbeats 2000000 in
theorem equalI (l m:List Int) (v u:Value) (w:World) (hv:SlI w v l) (hu:SlI w u m) :
  Calls Tryz.prog 26 #[v,u] w fun e w'=>e=.returned (.bool (decide (l=m)))∧Grew w w':=by
 obtain⟨A,c,rfl,hlc,hc,hr⟩:=hv.open_
 obtain⟨A',c',rfl,hlc',hc',hr'⟩:=hu.open_
 unfold maxLen at hc hc'
 have HR:=Lib.hid hr
 have HR':=Lib.hid hr'
 clear hr hr' hv hu
 by_cases hl:l.length=m.length
 case neg =>
  have hd:decide (l=m)=false:=by rw[decide_eq_false_iff_not];exact fun h=>hl (by rw[h])
  rw[hd]
  have hne:((l.length:Int) != (m.length:Int))=true:=by rw[bne_iff_ne];omega
  clear hl hd
  go_enter Tryz.func26,Tryz.ntmps26
  go_wp2
  go_ret
  exact⟨rfl,Grew.refl w⟩
 have hne:((l.length:Int) != (m.length:Int))=false:=by rw[bne_eq_false_iff_eq];omega
 generalize hD:decide (l=m)=D
 have HD:=Lib.hid hD
 have HL:=Lib.hid hl
 clear hD hl
 go_enter Tryz.func26,Tryz.ntmps26
 go_wp2
 go_loopg [5,13] l.length (fun gg _ s wr=>∃ kk:Nat,kk≤l.length∧l.length-kk≤gg∧s=.int .i64 kk∧Aside (Grew w wr)∧Aside (l.take kk=m.take kk))
 case atStart=>exact⟨0,Nat.zero_le _,by omega,rfl,Grew.refl w,rfl⟩
 case round =>
  obtain⟨kk,hkk,hg,rfl,BW,M⟩:=hrel
  by_cases hlt:kk<l.length
  ·have hlt2:kk<m.length:=by have:=HL.out;omega
   have hltz:(kk:Int)<(l.length:Int):=by omega
   have hltz2:(kk:Int)<(m.length:Int):=by omega
   obtain⟨b,off,rfl,hb,hcell⟩:=HR.out (by omega)
   obtain⟨b',off',rfl,hb',hcell'⟩:=HR'.out (by omega)
   obtain c0:=hcell wr BW.out kk hlt
   obtain d0:=hcell' wr BW.out kk hlt2
   clear hcell hcell'
   have Hstep:RowKit.Hid (l[kk]=m[kk]→l.take (kk+1)=m.take (kk+1)):=fun h=>by rw[List.take_succ_eq_append_getElem hlt,List.take_succ_eq_append_getElem hlt2,M.out,h]
   have Hbad:RowKit.Hid (l[kk]≠m[kk]→D=false):=fun h=>by
    rw[← HD.out,decide_eq_false_iff_not]
    exact fun e=>h (by simp[e])
   generalize l[kk]=x at c0 Hstep Hbad
   generalize m[kk]=y at d0 Hstep Hbad
   by_cases hxy:x=y
   ·have Hs:=Lib.hid (Hstep.out hxy)
    have hq1:(x == y)=true:=by rw[hxy];simp
    clear hxy Hstep Hbad
    go_wp2
    go_quiet (fail)
    go_wp2
    go_roundg (l.length-(kk+1))
    case measure=>omega
    case rel=>exact⟨kk+1,by omega,by omega,by go_num,(show Aside _ from BW.out.drewN _),(show Aside _ from Hs.out)⟩
   ·have Hs:=Lib.hid (Hbad.out hxy)
    have hq1:(x == y)=false:=by simpa using hxy
    clear hxy Hstep Hbad
    go_wp2
    go_quiet (fail)
    go_wp2
    go_ret
    exact⟨ret_bool Hs.out.symm,BW.out.drewN _⟩
  ·have hltz:¬ (kk:Int)<(l.length:Int):=by omega
   have Hs:RowKit.Hid (D=true):=by
    have h:=M.out
    rw[List.take_of_length_le (by omega),List.take_of_length_le (by have:=HL.out;omega)] at h
    show D=true
    rw[← HD.out,decide_eq_true_iff]
    exact h
   go_wp2
   go_ret
   exact⟨ret_bool Hs.out.symm,BW.out⟩
end Go.Proofs.YtdochkemaiokfaaGreat
/- append to a row of the call's own. No condition but the sizes that a slice can have. -/
namespace Go.Proofs.YtdochkemaiokfaaGreat
open Go.RowKit
theorem app1 {P:Program} {ops:Array Oper} {rest:List Oper} {o:Oper} {a:Act} {Q:Exit→Act→World→Prop} (hgd:o.guard=none) (s x:Operand) (t:TypeId)
  (ho:o.op=.call { callee:=.builtin .append,args:=#[s,x],argTypes:=#[t,t] })
  (w0:World) (e:TypeId) (i:TypeInfo) (z:Value) (size bytes:Nat) (ht:P.underlying t=some (.slice e)) (hi:P.info? e=some i) (hz:i.zero=some z)
  (hsize:i.size=size) (hby:i.bytes=bytes) (hzs:z.cells.size=size) (hsz:0<size)
  (v:Value) (n:Nat) (xs:List Value) (hs:a.eval s=v) (wr:World) (hown:wr.ownsRow w0.heap.size e size v n xs) (hg:Grew w0 wr)
  (cs:List Value) (hx:a.eval x=.slice (some ⟨wr.heap.size,0,none⟩) 1 1) (hl:cs.length=size) (h1:cs.all (·.oneCell')=true)
  (h63:n+1≤maxLen) (hbytes:(n+1)*bytes≤140737488355328)
  (h:∀ v' w',w'.ownsRow w0.heap.size e size v' (n+1) (xs++cs)→Grew w0 w'→wpList P ops Q rest (a.put o.dst v') w'):wpList P ops Q (o::rest) a (wr.alloc (.cells cs.toArray e)):=by
 refine wpList_append_own _ hgd s x t ho w0.heap.size e i z size bytes ht hi hz hsize hby hzs hsz v n xs hs (hown.alloc _) ⟨wr.heap.size,0,none⟩ 1 1 cs hx (by omega) ?_ ?_ h63 hbytes ?_ ?_
 ·intro j u hu
  have hlast:(wr.alloc (.cells cs.toArray e)).heap[wr.heap.size]? = some (.cells cs.toArray e):=heap_alloc_last wr _
  rw[add_lit,Nat.zero_add,cell_of_row _ _ _ _ _ _ hlast]
  simpa using hu
 ·exact fun u hu=>List.all_eq_true.1 h1 u hu
 ·have:=hg.size
  simp
  omega
 ·intro v' w' h2 h3 _
  refine h v' w' h2 ?_
  refine Below.grown (hg.alloc _) h3 (by have:=hg.size;simp;omega) (fun k hk=>?_)
  exact(hown.lt k hk).1
end Go.Proofs.YtdochkemaiokfaaGreat
/- append of a slice, nil let in, to a row of the call's own. No condition but the sizes that a slice can have. -/
namespace Go.Proofs.YtdochkemaiokfaaGreat
open Go.RowKit
theorem run_append_none {P:Program} (w:World) (base:Nat) (t ty e:TypeId) (i:TypeInfo) (size:Nat) (ht:P.underlying t=some (.slice e)) (hi:P.info? e=some i) (v:Value) (n:Nat) (xs:List Value) (hown:w.ownsRow base e size v n xs) (c:Nat) :
  (Builtin.append_ #[t,t] ty #[v,.slice none 0 c]).run P w=.ok v w:=by
 rcases hown.2 with ⟨rfl,rfl⟩|⟨g,cap,cur,rfl,_,_,hle,_⟩
 ·simp[Builtin.append_,run_underlying ht,sizeOf,typeInfo,hi,Builtin.lenOf,Builtin.firstCells]
 ·simp[Builtin.append_,run_underlying ht,sizeOf,typeInfo,hi,Builtin.lenOf,Builtin.firstCells,hle,storeCells]
theorem wpR {P:Program} {o:Oper} {a:Act} {K:Act→World→Prop} {Q:Exit→Act→World→Prop} (s x:Operand) (t:TypeId)
  (ho:o.op=.call { callee:=.builtin .append,args:=#[s,x],argTypes:=#[t,t] })
  (w0:World) (e:TypeId) (i:TypeInfo) (z:Value) (size bytes:Nat) (ht:P.underlying t=some (.slice e)) (hi:P.info? e=some i) (hz:i.zero=some z)
  (hsize:i.size=size) (hby:i.bytes=bytes) (hzs:z.cells.size=size) (hsz:0<size)
  (v:Value) (n:Nat) (xs:List Value) (hs:a.eval s=v) (wr:World) (hown:wr.ownsRow w0.heap.size e size v n xs) (hg:Grew w0 wr)
  (u:Value) (m:Nat) (cs:List Value) (hx:a.eval x=u) (hu:Rd wr size u cs) (hl:cs.length=m*size) (h1:∀ u∈cs,u.oneCell'=true)
  (h63:n+m≤maxLen) (hbytes:(n+m)*bytes≤140737488355328)
  (h:∀ v' w',w'.ownsRow w0.heap.size e size v' (n+m) (xs++cs)→Grew w0 w'→(∀ p x,wr.cell? p=some x→some p.block≠v.ownBlock→w'.cell? p=some x)→K (a.put o.dst v') w'):o.wp P a wr K Q:=by
 obtain⟨A,m',c,rfl,hl',hmc,_,hr⟩:=hu
 obtain rfl:m'=m:=Nat.eq_of_mul_eq_mul_right hsz (hl'.symm.trans hl)
 cases A with
 | none =>
  have hm0:m'=0:=by
   rcases Nat.eq_zero_or_pos m' with h0|h0
   ·exact h0
   ·obtain⟨b,off,hA,_⟩:=hr h0
    cases hA
  subst hm0
  have hcs:cs=[]:=List.eq_nil_of_length_eq_zero (by omega)
  subst hcs
  have hrun:=run_append_none wr w0.heap.size t o.type e i size ht hi v n xs hown c
  unfold Oper.wp execOp
  simp only [ho,resolve,invoke,builtin,Sem.run_bind,Sem.run_pure,Result.andThen_ok,List.map_toArray,List.map_cons,List.map_nil,hs,hx,hrun]
  exact h v wr (by simpa using hown) hg (fun p x hp _=>hp)
 | some ad =>
  refine wp_append_own wr s x t ho w0.heap.size e i z size bytes ht hi hz hsize hby hzs hsz v n xs hs hown ad m' c cs hx hl ?_ h1 h63 hbytes hg.size ?_
  ·intro j u hu
   have hj:=(List.getElem?_eq_some_iff.1 hu).1
   have h0:0<m':=by
    rcases Nat.eq_zero_or_pos m' with h0|h0
    ·subst h0;omega
    ·exact h0
   obtain⟨b,off,hA,_,hcell⟩:=hr h0
   cases hA
   rw[add_lit]
   exact hcell j u hu
  ·intro v' w' h2 h3 _
   exact h v' w' h2 (Below.grown hg h3 hg.size (fun k hk=>(hown.lt k hk).1)) (fun p x hp hne=>h3.cell hp hne)
theorem appR {P:Program} {ops:Array Oper} {rest:List Oper} {o:Oper} {a:Act} {Q:Exit→Act→World→Prop} (hgd:o.guard=none) (s x:Operand) (t:TypeId)
  (ho:o.op=.call { callee:=.builtin .append,args:=#[s,x],argTypes:=#[t,t] })
  (w0:World) (e:TypeId) (i:TypeInfo) (z:Value) (size bytes:Nat) (ht:P.underlying t=some (.slice e)) (hi:P.info? e=some i) (hz:i.zero=some z)
  (hsize:i.size=size) (hby:i.bytes=bytes) (hzs:z.cells.size=size) (hsz:0<size)
  (v:Value) (n:Nat) (xs:List Value) (hs:a.eval s=v) (wr:World) (hown:wr.ownsRow w0.heap.size e size v n xs) (hg:Grew w0 wr)
  (u:Value) (m:Nat) (cs:List Value) (hx:a.eval x=u) (hu:Rd wr size u cs) (hl:cs.length=m*size) (h1:∀ u∈cs,u.oneCell'=true)
  (h63:n+m≤maxLen) (hbytes:(n+m)*bytes≤140737488355328)
  (h:∀ v' w',w'.ownsRow w0.heap.size e size v' (n+m) (xs++cs)→Grew w0 w'→(∀ p x,wr.cell? p=some x→some p.block≠v.ownBlock→w'.cell? p=some x)→wpList P ops Q rest (a.put o.dst v') w'):wpList P ops Q (o::rest) a wr :=
 wpList_plain hgd fun _ hK=>wpR s x t ho w0 e i z size bytes ht hi hz hsize hby hzs hsz v n xs hs wr hown hg u m cs hx hu hl h1 h63 hbytes fun v' w' h2 h3 h4=>hK _ _ (h v' w' h2 h3 h4)
theorem app1H {P:Program} {ops:Array Oper} {rest:List Oper} {o:Oper} {a:Act} {Q:Exit→Act→World→Prop} (hgd:o.guard=none) (s x:Operand) (t:TypeId)
  (ho:o.op=.call { callee:=.builtin .append,args:=#[s,x],argTypes:=#[t,t] })
  (w0:World) (e:TypeId) (i:TypeInfo) (z:Value) (size bytes:Nat) (ht:P.underlying t=some (.slice e)) (hi:P.info? e=some i) (hz:i.zero=some z)
  (hsize:i.size=size) (hby:i.bytes=bytes) (hzs:z.cells.size=size) (hsz:0<size)
  (v:Value) (n:Nat) (xs:List Value) (hs:a.eval s=v) (wr:World) (hown:wr.ownsRow w0.heap.size e size v n xs) (hg:Grew w0 wr) (H:Nat) (hH:wr.heap.size=H)
  (cs:List Value) (hx:a.eval x=.slice (some ⟨H,0,none⟩) 1 1) (hl:cs.length=size) (h1:cs.all (·.oneCell')=true)
  (h63:n+1≤maxLen) (hbytes:(n+1)*bytes≤140737488355328)
  (h:∀ v' w',w'.ownsRow w0.heap.size e size v' (n+1) (xs++cs)→Grew w0 w'→wpList P ops Q rest (a.put o.dst v') w'):wpList P ops Q (o::rest) a (wr.alloc (.cells cs.toArray e)):=by
 subst hH
 exact app1 hgd s x t ho w0 e i z size bytes ht hi hz hsize hby hzs hsz v n xs hs wr hown hg cs hx hl h1 h63 hbytes h
end Go.Proofs.YtdochkemaiokfaaGreat
/- tree: just, the check of the children, walked. The condition: the lists are short. -/
namespace Go.Proofs.YtdochkemaiokfaaGreat
open Go.RowKit
theorem take_kids (l:List Br) (id:Int) (k:Nat) (hk:k<l.length):kidsOf (l.take (k+1)) id=kidsOf (l.take k) id++(if l[k].parent == id then[l[k].id] else[]):=by
 unfold kidsOf
 rw[List.take_succ_eq_append_getElem hk,List.filter_append,List.map_append]
 congr 1
 by_cases h:(l[k].parent == id)=true
 ·simp[h]
 ·simp[h]
theorem kids_len (l:List Br) (id:Int) (k:Nat):(kidsOf (l.take k) id).length≤l.length:=by
 unfold kidsOf
 rw[List.length_map]
 exact Nat.le_trans (List.length_filter_le _ _) (by rw[List.length_take];omega)
set_option maxRecDepth 100000 in
set_option maxHeartbeats 4000000 in
theorem tJust (l:List Br) (id:Int) (ks:List Int) (rv bv kv:Value) (w:World) (hv:SlBr w bv l) (hk:SlI w kv ks) (hl:l.length≤1000000) (hkl:ks.length≤1000000) :
  Calls Tryz.prog 197 #[.agg #[rv,bv],.int .i64 id,kv] w fun e w'=>e=.returned (.bool (decide (sortI ks=kidsOf l id)))∧Grew w w':=by
 have HK:=Lib.hid hk
 obtain⟨A,c,rfl,hlc,hc,hr⟩:=hv.open_
 have HR:=Lib.hid hr
 obtain⟨Ak,ck,rfl,-,-,-⟩:=hk.open_
 obtain⟨i0,hi,hz0,hz1,hz2⟩:=info_parts cinfoI
 clear hv hr hk hc hlc
 generalize hD:decide (sortI ks=kidsOf l id)=D
 have HD:=Lib.hid hD
 clear hD
 go_enter Tryz.func197,Tryz.ntmps197
 go_wp2
 go_loopg [7,13] l.length (fun gg s7 s13 wr=>∃ k:Nat,k≤l.length∧l.length-k≤gg∧s13=.int .i64 k∧Aside (wr.ownsRow w.heap.size 3 1 s7 (kidsOf (l.take k) id).length ((kidsOf (l.take k) id).flatMap oneI))∧Aside (Grew w wr))
 case atStart=>exact⟨0,by omega,by omega,rfl,(show Aside _ from World.ownsRow_nil _ _ _ _),(show Aside _ from(Grew.refl w).alloc _)⟩
 case round =>
  obtain⟨k,hkk,hgk,rfl,OW,BW⟩:=hrel
  by_cases hlt:k<l.length
  case neg =>
   have hltz:¬ (k:Int)<(l.length:Int):=by omega
   have hT:l.take k=l:=List.take_of_length_le (by omega)
   have HS:=Lib.hid (show SlI wr _ (kidsOf (l.take k) id) from Rd.of_own OW.out)
   rw[hT] at HS
   clear hT OW
   go_wp2_with fail
   refine(valuesI_any Ak ks.length ck wr).mono ?_
   rintro e w1 ⟨rfl,hw1⟩
   have hg1:Grew wr w1:=by rw[← hw1];exact(Grew.refl wr).alloc _
   have hc1:w1.cell? ⟨wr.heap.size,0,none⟩=some (.slice Ak ks.length ck):=by rw[← hw1];simp
   have KS:=Lib.hid (sortedI_any (.slice Ak ks.length ck) ks hkl wr.heap.size w1 w (World.block_lt_of_cell? w1 _ hc1) (BW.out.trans hg1) hc1 HK.out)
   have HS1:=Lib.hid (HS.out.mono hg1)
   have HW1:=Lib.hid (BW.out.trans hg1)
   clear hw1 hg1 hc1 HS
   dsimp only
   go_wp2_with fail
   refine KS.out.mono ?_
   rintro e w2 ⟨v2,rfl,hs2,g2⟩
   have HS2:=Lib.hid hs2
   have HS12:=Lib.hid (HS1.out.mono g2)
   have HW2:=Lib.hid (HW1.out.trans g2)
   clear hs2 g2 KS HS1
   dsimp only
   go_wp2_with fail
   refine(equalI _ _ _ _ _ HS2.out HS12.out).mono ?_
   rintro e w3 ⟨rfl,g3⟩
   rw[HD.out]
   dsimp only
   go_wp2
   go_ret
   exact⟨rfl,HW2.out.trans g3⟩
  have hltz:(k:Int)<(l.length:Int):=by omega
  have h0z:(0:Int)≤(k:Int):=by omega
  obtain⟨b,off,rfl,hb,hcell⟩:=HR.out (by omega)
  obtain⟨kvv,hkv,hcl⟩:=hcell k hlt
  obtain⟨c0,c1,c2,c3,c4,c5⟩:=hcl wr BW.out
  have HT:=Lib.hid (take_kids l id k hlt)
  have hlen:=kids_len l id k
  obtain⟨Az,cz,rfl,-,-,-⟩:=hkv.open_
  clear hcell hcl hkv
  generalize l[k]=y at c0 c1 c2 c3 c4 c5 HT
  obtain⟨yi,yp,yl,yt,ym,yk⟩:=y
  dsimp only at c0 c1 c2 c3 c4 c5 HT
  cases a1:(yp == id) with
  | false =>
   rw[a1] at HT
   go_wp2
   go_roundg (l.length-(k+1))
   case measure=>omega
   case rel =>
    refine⟨k+1,by omega,by omega,by go_num,?_,(show Aside _ from BW.out.alloc _)⟩
    have:=HT.out
    simp only [Bool.false_eq_true,if_false,List.append_nil] at this
    rw[this]
    exact(show Aside _ from OW.out.alloc _)
  | true =>
   rw[a1] at HT
   go_wp2_with (at_builtin;refine app1H rfl _ _ 38 rfl w 3 i0 (.int .i64 0) 1 8 Tryz.underlying38 hi hz0 hz1 hz2 rfl (by omega) _ _ _ (by rfl) (wr.alloc (.cells #[.int .i64 yi,.int .i64 yp,.int .i64 yl,.string yt,.string ym,.slice Az yk.length cz] 66)) (OW.out.alloc _) (BW.out.alloc _) (wr.heap.size+1) (by simp) [.int .i64 yi] (by rfl) rfl rfl (by unfold maxLen;omega) (by omega) ?_;intro v8 w8 hown8 hg8)
   have OW8:Aside _:=hown8
   have BW8:Aside _:=hg8
   clear hown8 hg8
   go_wp2
   go_roundg (l.length-(k+1))
   case measure=>omega
   case rel =>
    refine⟨k+1,by omega,by omega,by go_num,?_,BW8⟩
    have:=HT.out
    simp only [if_true] at this
    rw[this,List.flatMap_append,List.length_append]
    exact OW8
end Go.Proofs.YtdochkemaiokfaaGreat
/- Regions that draw their order, whose last operation waits for all others and may do whatever it does (a store): the others are walked once, in every world that grew out of one. No condition. -/
namespace Go.Proofs.YtdochkemaiokfaaGreat
open Go.RowKit
section
variable {P:Program} {md:Region.Mode} {ops ops':Array Oper} {C:World→Prop}
structure LastOp (md:Region.Mode) (ops ops':Array Oper) (n:Nat) (o:Oper):Prop where
 size:ops.size=n+1
 size':ops'.size=n+1
 same:∀ i:Nat,i<n→ops'[i]? = ops[i]?
 here:ops[n]? = some o
 guard:o.guard=none
 blank:∃ o',ops'[n]? = some o'∧o'.dst=none∧o'.guard=none∧o'.after=o.after∧o.dst=none
 waits:∀ i:Nat,i<n→∃ e∈o.after,Region.binds md e=true∧e.on=i
 low:∀(j:Nat) (oj:Oper),ops[j]? = some oj→∀ e∈oj.after,e.on<j
variable {n:Nat} {o:Oper}
theorem LastOp.get (L:LastOp md ops ops' n o) (i:Nat):(ops'[i]?).map Oper.after=(ops[i]?).map Oper.after∧(ops'[i]?).bind Oper.dst=(ops[i]?).bind Oper.dst:=by
 rcases Nat.lt_trichotomy i n with h|h|h
 ·rw[L.same i h];exact⟨rfl,rfl⟩
 ·subst h
  obtain⟨o',h1,h2,_,h4,h5⟩:=L.blank
  rw[h1,L.here]
  simp[h2,h4,h5]
 ·rw[Array.getElem?_eq_none (by have:=L.size;have:=L.size';omega),Array.getElem?_eq_none (by have:=L.size;have:=L.size';omega)]
  exact⟨rfl,rfl⟩
theorem LastOp.ready (L:LastOp md ops ops' n o) (listed:Array Bool):Region.ready md ops' listed=Region.ready md ops listed:=by
 unfold Region.ready
 rw[L.size,L.size']
 refine List.filter_congr fun i _=>?_
 have:=(L.get i).1
 cases h1:ops[i]?<;>cases h2:ops'[i]?<;>rw[h1,h2] at this<;>simp at this ⊢
 rw[this]
theorem LastOp.yielded (L:LastOp md ops ops' n o):Go.yielded ops'=Go.yielded ops:=by
 funext tmps j
 unfold Go.yielded
 rw[(L.get j).2]
theorem LastOp.some_ready (L:LastOp md ops ops' n o) (listed:Array Bool) (hs:listed.size=n+1):∀ i,i≤n→listed.getD i true=false→Region.ready md ops listed≠[]:=by
 intro i
 induction i using Nat.strongRecOn with
 | _ i ih =>
  intro hi hun h0
  obtain⟨oi,hoi⟩:∃ oi,ops[i]? = some oi:=⟨_,Array.getElem?_eq_getElem (by have:=L.size;omega)⟩
  by_cases hall:∀ e∈oi.after,Region.binds md e=true→listed.getD e.on false=true
  ·have:i∈Region.ready md ops listed:=mem_ready.2 ⟨hun,oi,hoi,hall⟩
   rw[h0] at this
   cases this
  ·have:∃ e∈oi.after,listed.getD e.on false≠true:=Classical.byContradiction fun hn=>hall fun e he _=>Classical.byContradiction fun h=>hn ⟨e,he,h⟩
   obtain⟨e,he,hne⟩:=this
   have hlt:=L.low i oi hoi e he
   have hin:e.on<listed.size:=by omega
   refine ih e.on hlt (by omega) ?_ h0
   simp only [Bool.not_eq_true] at hne
   rw[Array.getD_eq_getD_getElem?,Array.getElem?_eq_getElem hin] at hne ⊢
   simpa using hne
theorem LastOp.none_ready (L:LastOp md ops ops' n o) (listed:Array Bool) (hs:listed.size=n+1) (hn:n∈Region.ready md ops listed):Region.ready md ops (listed.setIfInBounds n true)=[]:=by
 rw[List.eq_nil_iff_forall_not_mem]
 intro i hi
 obtain⟨hun,oi,hoi,_⟩:=mem_ready.1 hi
 have hlt:i<ops.size:=(Array.getElem?_eq_some_iff.1 hoi).1
 have:=L.size
 by_cases h:i=n
 ·subst h
  rw[Array.getD_eq_getD_getElem?,Array.getElem?_setIfInBounds_self_of_lt (by omega)] at hun
  cases hun
 ·rw[getD_set_ne true (fun e=>h e.symm)] at hun
  obtain⟨_,on,hon,hall⟩:=mem_ready.1 hn
  have:on=o:=Option.some.inj (hon.symm.trans L.here)
  subst this
  obtain⟨e,he,hb,hei⟩:=L.waits i (by omega)
  have h2:=hall e he hb
  rw[hei,Array.getD_eq_getD_getElem?,Array.getElem?_eq_getElem (by omega)] at h2
  rw[Array.getD_eq_getD_getElem?,Array.getElem?_eq_getElem (by omega)] at hun
  simp at h2 hun
  rw[h2] at hun
  cases hun
theorem last_step (L:LastOp md ops ops' n o) {Q:Act→Prop} {Q':Exit→Act→World→Prop} (hQ:∀ a w,C w→Q a→o.wp P a w (Q' .normal) Q') (fuel:Nat) (listed:Array Bool) (a:Act) (w:World) (hC:C w) (hs:listed.size=n+1) (hun:listed.getD n true=false)
  (ih:∀(listed:Array Bool) (a:Act) (w:World),C w→listed.size=n+1→listed.getD n true=false→wpAnyQ P md ops' C Q fuel listed a→wpAny P md ops Q' fuel listed a w)
  (h:wpAnyQ P md ops' C Q (fuel+1) listed a):wpAny P md ops Q' (fuel+1) listed a w:=by
 refine⟨fun h0=>absurd h0 (L.some_ready listed hs n (Nat.le_refl _) hun),fun i hi=>?_⟩
 have hi':i∈Region.ready md ops' listed:=by rw[L.ready];exact hi
 have hq:=h.2 i hi'
 obtain⟨_,oi,hoi,_⟩:=mem_ready.1 hi
 have hlt:i<n+1:=by rw[← L.size];exact(Array.getElem?_eq_some_iff.1 hoi).1
 by_cases hin:i=n
 ·subst hin
  obtain⟨o',h1,h2,h3,_,_⟩:=L.blank
  have hnil:=L.none_ready listed hs hi
  have hQa:Q a:=by
   unfold qOp at hq
   rw[h1] at hq
   have hw:Region.wanted o' (yielded ops' a.tmps)=true:=by simp[Region.wanted,h3]
   simp only [hw,if_true] at hq
   obtain⟨v,_,hk⟩:=hq
   rw[h2] at hk
   have hk2:wpAnyQ P md ops' C Q fuel (listed.setIfInBounds i true) a:=hk
   cases fuel with
   | zero=>exact hk2.2
   | succ fuel=>exact hk2.1 (by rw[L.ready];exact hnil)
  unfold wpOp
  rw[L.here]
  have hw:Region.wanted o (yielded ops a.tmps)=true:=by simp[Region.wanted,L.guard]
  simp only [hw,if_true]
  refine .inl (Oper.wp_mono (fun a' w' hq'=>?_) (hQ a w hC hQa))
  cases fuel with
  | zero=>exact⟨hnil,hq'⟩
  | succ fuel=>exact⟨fun _=>hq',fun j hj=>by rw[hnil] at hj;cases hj⟩
 ·have hq2:qOp P ops C i (wpAnyQ P md ops' C Q fuel (listed.setIfInBounds i true)) a:=by
   unfold qOp at hq ⊢
   rw[L.same i (by omega),L.yielded] at hq
   exact hq
  refine wpOp_of_qOp hC (fun a' w' hC' hk=>?_) hq2
  exact ih _ a' w' hC' (by simpa using hs) (by rw[getD_set_ne true (fun e=>hin e)];exact hun) hk
theorem last_any (L:LastOp md ops ops' n o) {Q:Act→Prop} {Q':Exit→Act→World→Prop} (hQ:∀ a w,C w→Q a→o.wp P a w (Q' .normal) Q'):∀(fuel:Nat) (listed:Array Bool) (a:Act) (w:World),C w→listed.size=n+1→listed.getD n true=false →
  wpAnyQ P md ops' C Q fuel listed a→wpAny P md ops Q' fuel listed a w
 | 0,listed,_,_,_,hs,hun,h=>absurd (by rw[← L.ready];exact h.1) (L.some_ready listed hs n (Nat.le_refl _) hun)
 | fuel+1,listed,a,w,hC,hs,hun,h=>last_step L hQ fuel listed a w hC hs hun (last_any L hQ fuel) h
end
def blankLast:List Oper→List Oper
 | []=>[]
 | [o]=>[{ o with op:=.move (.const (.bool true)) }]
 | x::y::r=>x::blankLast (y::r)
def lastB (l:List Oper):Bool:=match l.getLast? with
 | none=>false
 | some o=>o.guard.isNone && o.dst.isNone && (List.range (l.length-1)).all (fun i=>o.after.any fun e=>Region.binds .any e && e.on == i) && (List.range l.length).all fun j=>match l[j]? with
  | none=>true
  | some oj=>oj.after.all fun e=>decide (e.on<j)
theorem blankLast_len:∀ l:List Oper,(blankLast l).length=l.length
 | []=>rfl
 | [_]=>rfl
 | x::y::r=>by simp[blankLast,blankLast_len (y::r)]
theorem blankLast_get:∀(l:List Oper) (i:Nat),i+1<l.length→(blankLast l)[i]? = l[i]?
 | [],i,h=>by simp at h
 | [_],i,h=>by simp at h
 | x::y::r,0,_=>rfl
 | x::y::r,i+1,h=>by
  simp only [blankLast,List.getElem?_cons_succ]
  exact blankLast_get (y::r) i (by simpa using h)
theorem blankLast_last:∀(l:List Oper) (o:Oper),l.getLast? = some o→(blankLast l)[l.length-1]? = some { o with op:=.move (.const (.bool true)) }
 | [],_,h=>by simp at h
 | [x],o,h=>by simp at h;subst h;rfl
 | x::y::r,o,h=>by
  have:=blankLast_last (y::r) o (by simpa using h)
  simp only [blankLast,List.length_cons] at this ⊢
  simpa using this
theorem lastOp_of (l:List Oper) (o:Oper) (ho:l.getLast? = some o) (h:lastB l=true):LastOp .any l.toArray (blankLast l).toArray (l.length-1) o:=by
 have hpos:0<l.length:=by cases l<;>simp at ho ⊢
 unfold lastB at h
 rw[ho] at h
 simp only [Bool.and_eq_true,List.all_eq_true,Option.isNone_iff_eq_none] at h
 obtain⟨⟨⟨hg,hd⟩,hw⟩,hl⟩:=h
 refine⟨by simp;omega,by simp[blankLast_len];omega,fun i hi=>?_,?_,hg,⟨{ o with op:=.move (.const (.bool true)) },by simpa using blankLast_last l o ho,hd,hg,rfl,hd⟩,fun i hi=>?_,fun j oj hj e he=>?_⟩
 ·simpa using blankLast_get l i (by omega)
 ·rw[List.getLast?_eq_getElem?] at ho
  simpa using ho
 ·have:=hw i (List.mem_range.2 hi)
  obtain⟨e,he,hb⟩:=Array.any_eq_true'.1 this
  simp only [Bool.and_eq_true,beq_iff_eq] at hb
  exact⟨e,he,hb.1,hb.2⟩
 ·have hj':l[j]? = some oj:=by simpa using hj
  have hjl:j<l.length:=(List.getElem?_eq_some_iff.1 hj').1
  have:=hl j (List.mem_range.2 hjl)
  rw[hj'] at this
  simpa using Array.all_eq_true'.1 this e he
theorem region_gr_last {P:Program} {id:Nat} {Q:Exit→Act→World→Prop} {a:Act} {w:World} {l:List Oper} (w0:World) (o:Oper) (ho:l.getLast? = some o) (hm:P.follows .mixedOrders=true) (hL:lastB l=true) (hB:Region.lexB .any (blankLast l).toArray=true) (hg:Grew w0 w)
  (h:wpQuiet P (blankLast l).toArray (fun W'=>∃ i:Gr w0,W'=i.W) (fun a'=>∀ W',(∃ i:Gr w0,W'=i.W)→o.wp P a' W' (Q .normal) Q) (blankLast l) a):(Code.region id l.toArray true).wp P Q a w:=by
 have L:=lastOp_of l o ho hL
 have hpos:0<l.length:=by cases l<;>simp at ho ⊢
 simp only [Region.lexB,Bool.and_eq_true] at hB
 refine wp_region_any hm ?_
 have hq:=wpAnyQ_lex (P:=P) (C:=fun W'=>∃ i:Gr w0,W'=i.W) (md:=.any) hB.1 (blankLast l) 0 (Array.replicate (blankLast l).toArray.size false) a (by simp) (by simpa using hB.2) h
 have hsz:(blankLast l).length=l.toArray.size:=by simp[blankLast_len]
 have hsz2:(blankLast l).toArray.size=l.toArray.size:=by simp[blankLast_len]
 rw[hsz,hsz2] at hq
 refine last_any L (fun a' w' hC hq'=>hq' w' hC) _ _ _ _ ⟨⟨w.drew,hg.drew⟩,rfl⟩ (by simp;omega) ?_ hq
 rw[Array.getD_eq_getD_getElem?,Array.getElem?_eq_getElem (by simp;omega)]
 simp
end Go.Proofs.YtdochkemaiokfaaGreat
/- tree: the check of the children, depth, walked. The condition: the lists are short; for depth: each unit is placed. -/
namespace Go.Proofs.YtdochkemaiokfaaGreat
open Go.RowKit
def FewBr (l:List Br):Prop:=l.length≤1000000∧∀ i (h:i<l.length),l[i].kids.length≤1000000
set_option maxHeartbeats 2000000 in
theorem tKids (l:List Br) (i:Nat) (hi:i<l.length) (rv bv:Value) (w:World) (hv:SlBr w bv l) (hf:FewBr l) :
  Calls Tryz.prog 196 #[.agg #[rv,bv],.int .i64 i] w (RetIff (sortI l[i].kids=kidsOf l l[i].id) w):=by
 have HV:=Lib.hid hv
 obtain⟨A,c,rfl,hlc,hc,hr⟩:=hv.open_
 unfold maxLen at hc
 obtain⟨b,off,rfl,hbk,hcell⟩:=hr (by omega)
 obtain⟨kv,hkv,hcl⟩:=hcell i hi
 obtain⟨c0,c1,c2,c3,c4,c5⟩:=hcl w (Grew.refl w)
 have kJ:=fun W (hW:Grew w W)=>tJust l l[i].id l[i].kids rv (.slice (some ⟨b,off,none⟩) l.length c) kv W (HV.out.mono hW) (hkv.mono hW) hf.1 (hf.2 i hi)
 have hiz:(i:Int)<(l.length:Int):=by omega
 have h0z:(0:Int)≤(i:Int):=by omega
 obtain⟨Az,cz,rfl,-,-,-⟩:=hkv.open_
 by_cases hS:sortI l[i].kids=kidsOf l l[i].id
 ·have HS:=Lib.hid hS
  rw[decide_eq_true hS] at kJ
  clear hS hcell hcl hr hv hkv hf
  generalize (sortI l[i].kids=kidsOf l l[i].id)=PA at HS ⊢
  generalize l[i]=y at c0 c1 c2 c3 c4 c5 kJ
  obtain⟨yi,yp,yl,yt,ym,yk⟩:=y
  dsimp only at c0 c1 c2 c3 c4 c5 kJ
  have KJ:=Lib.hid kJ
  clear kJ
  go_enter Tryz.func196,Tryz.ntmps196
  go_wp2_with fail
  refine(KJ.out _ (((Grew.refl w).alloc _).alloc _)).mono ?_
  rintro e w1 ⟨rfl,g1⟩
  dsimp only
  go_wp2
  go_ret
  exact RetIff.yes HS.out ((((Grew.refl w).alloc _).alloc _).trans g1)
 ·have HS:=Lib.hid hS
  rw[decide_eq_false hS] at kJ
  clear hS hcell hcl hr hv hkv hf
  generalize (sortI l[i].kids=kidsOf l l[i].id)=PA at HS ⊢
  generalize l[i]=y at c0 c1 c2 c3 c4 c5 kJ
  obtain⟨yi,yp,yl,yt,ym,yk⟩:=y
  dsimp only at c0 c1 c2 c3 c4 c5 kJ
  have KJ:=Lib.hid kJ
  clear kJ
  go_enter Tryz.func196,Tryz.ntmps196
  go_wp2_with fail
  refine(KJ.out _ (((Grew.refl w).alloc _).alloc _)).mono ?_
  rintro e w1 ⟨rfl,g1⟩
  dsimp only
  go_wp2
  go_ret
  exact RetIff.no 10 (by decide) HS.out ((((Grew.refl w).alloc _).alloc _).trans g1)
def HoldsU (W:World) (C:Nat) (y:Br):Prop:=W.heap[C]? = some (.cells #[.int .i64 y.id,.int .i64 y.parent,.int .i64 y.level,.string y.title,.string y.mark] 64)
theorem HoldsU.cells {W:World} {C:Nat} {y:Br} (h:HoldsU W C y):W.cell? ⟨C,0,none⟩=some (.int .i64 y.id)∧W.cell? ⟨C,1,none⟩=some (.int .i64 y.parent)∧W.cell? ⟨C,2,none⟩=some (.int .i64 y.level)∧W.cell? ⟨C,3,none⟩=some (.string y.title)∧W.cell? ⟨C,4,none⟩=some (.string y.mark):=by
 refine⟨?_,?_,?_,?_,?_⟩<;>rw[cell_of_row _ _ _ _ _ _ h]<;>simp
theorem HoldsU.free {W:World} {C:Nat} {y:Br} (h:HoldsU W C y) (j:Nat):W.frozen? ⟨C,j,none⟩=false:=by
 unfold HoldsU at h
 simp[World.frozen?,h]
theorem HoldsU.mono {W W':World} {C:Nat} {y:Br} (h:HoldsU W C y) (hg:Grew W W'):HoldsU W' C y:=by
 have hlt:C<W.heap.size:=by
  rcases Nat.lt_or_ge C W.heap.size with hlt|hge
  ·exact hlt
  ·unfold HoldsU at h;rw[Array.getElem?_eq_none hge] at h;cases h
 exact(hg.block C hlt).trans h
theorem holdsU_new (w:World) (o:Obj) (y:Br):HoldsU ((w.alloc o).alloc (.cells #[.int .i64 y.id,.int .i64 y.parent,.int .i64 y.level,.string y.title,.string y.mark] 64)) (w.heap.size+1) y:=by
 have:=heap_alloc_new (w.alloc o) (.cells #[.int .i64 y.id,.int .i64 y.parent,.int .i64 y.level,.string y.title,.string y.mark] 64)
 unfold HoldsU
 simpa using this
theorem holdsU_last (w:World) (y:Br):HoldsU (w.alloc (.cells #[.int .i64 y.id,.int .i64 y.parent,.int .i64 y.level,.string y.title,.string y.mark] 64)) w.heap.size y:=heap_alloc_new w _
theorem holdsU_lastH (w:World) (H:Nat) (h:w.heap.size=H) (y:Br):HoldsU (w.alloc (.cells #[.int .i64 y.id,.int .i64 y.parent,.int .i64 y.level,.string y.title,.string y.mark] 64)) H y:=by
 subst h
 exact holdsU_last w y
theorem HoldsU.lt {W:World} {C:Nat} {y:Br} (h:HoldsU W C y):C<W.heap.size:=by
 rcases Nat.lt_or_ge C W.heap.size with hlt|hge
 ·exact hlt
 ·unfold HoldsU at h;rw[Array.getElem?_eq_none hge] at h;cases h
theorem deep_zero (l:List Br) (n:Nat) (b:Br) (h:b.parent=0):deep l n b=some 1:=by cases n<;>simp[deep,h]
theorem deep_up (l:List Br) (n:Nat) (b p:Br) (h:b.parent≠0) (hp:brFind l b.parent=some p):deep l (n+1) b=(deep l n p).map (· + 1):=by simp[deep,h,hp]
theorem deep_cycle (l:List Br) (b:Br) (h:b.parent≠0):deep l 0 b=none:=by simp[deep,h]
set_option maxRecDepth 100000 in
set_option maxHeartbeats 4000000 in
theorem tDepth (l:List Br) (i:Nat) (hi:i<l.length) (rv bv:Value) (w:World) (hv:SlBr w bv l) (hlen:l.length≤1000000) (hP:∀ i (h:i<l.length),BrPlaced l l[i]) :
  Calls Tryz.prog 200 #[.agg #[rv,bv],.int .i64 i] w (RetIff (BrDeep l l[i]) w):=by
 have HV:=Lib.hid hv
 obtain⟨A,c,rfl,hlc,hc,hr⟩:=hv.open_
 unfold maxLen at hc
 obtain⟨b,off,rfl,hbk,hcell⟩:=hr (by omega)
 have HCELL:=Lib.hid hcell
 obtain⟨kv,-,hcl⟩:=hcell i hi
 obtain⟨c0,c1,c2,c3,c4,-⟩:=hcl w (Grew.refl w)
 have hiz:(i:Int)<(l.length:Int):=by omega
 have h0z:(0:Int)≤(i:Int):=by omega
 have HM:=Lib.hid (List.getElem_mem hi)
 have HD:RowKit.Hid (BrDeep l l[i]↔∃ d,deep l l.length l[i]=some d∧d≤12):=Iff.rfl
 generalize BrDeep l l[i]=PA at HD ⊢
 generalize hy:l[i]=y at c0 c1 c2 c3 c4 HD HM
 clear hy
 obtain⟨yi,yp,yl,yt,ym,yk⟩:=y
 dsimp only at c0 c1 c2 c3 c4
 have HF:RowKit.Hid (∀ y∈l,y.parent≠0→∃ p,brFind l y.parent=some p):=fun y hy hne=>by
  obtain⟨j,hj,rfl⟩:=List.mem_iff_getElem.1 hy
  have:=hP j hj
  unfold BrPlaced at this
  rw[if_neg hne] at this
  obtain⟨p,hp,_⟩:=this
  exact⟨p,hp⟩
 clear hcell hcl hr hv hP
 go_enter Tryz.func200,Tryz.ntmps200
 go_wp2
 go_loopg [5,6] (l.length+1) (fun gg s5 s6 wr=>∃(m C:Nat) (y:Br),s5=.int .i64 (m+1:Nat)∧s6=.pointer (some ⟨C,0,none⟩)∧m≤l.length∧l.length+1-m≤gg∧w.heap.size+1≤C∧Aside (y∈l)∧Aside (HoldsU wr C y)∧Aside (Grew (w.alloc (.cells [rv,.slice (some ⟨b,off,none⟩) l.length c].toArray 43)) wr)∧Aside (deep l l.length ⟨yi,yp,yl,yt,ym,yk⟩=(deep l (l.length-m) y).map (· + m)))
 case atStart=>exact⟨0,w.heap.size+1,⟨yi,yp,yl,yt,ym,yk⟩,rfl,rfl,by omega,by omega,by omega,(show Aside _ from HM.out),(show Aside _ from holdsU_new w _ ⟨yi,yp,yl,yt,ym,yk⟩),(show Aside _ from(Grew.refl _).alloc _),(show Aside _ from(show _=_ by simp))⟩
 case round =>
  obtain⟨m,C,y,rfl,rfl,hm,hgk,hC,HYM,HU,BW,HDP⟩:=hrel
  have GW:Aside (Grew w wr):=((Grew.refl w).alloc _).trans BW.out
  have t1:=new_cell BW.out 1 _ rfl
  have t0:=new_cell BW.out 0 _ rfl
  obtain⟨u0,u1,u2,u3,u4⟩:=HU.out.cells
  by_cases hp0:y.parent=0
  ·have hdd:deep l l.length ⟨yi,yp,yl,yt,ym,yk⟩=some (1+m):=by rw[HDP.out,deep_zero _ _ _ hp0];rfl
   have hpp:(y.parent != 0)=false:=by simpa using hp0
   have HDD:=Lib.hid hdd
   generalize y.parent=zp at u1 hpp
   clear hdd hp0 u0 u2 u3 u4
   by_cases h12:12<m+1
   ·have h12z:(12:Int)<((m+1:Nat):Int):=by omega
    have Hn:RowKit.Hid (¬ PA):=fun h=>by
     obtain⟨d,hd,hle⟩:=HD.out.1 h
     rw[HDD.out] at hd
     cases hd
     omega
    go_wp2
    go_ret
    exact RetIff.no 15 (by decide) Hn.out GW.out
   ·have h12z:¬ (12:Int)<((m+1:Nat):Int):=by omega
    have Hy:RowKit.Hid PA:=HD.out.2 ⟨1+m,HDD.out,by omega⟩
    go_wp2
    go_ret
    exact RetIff.yes Hy.out GW.out
  have hpp:(y.parent != 0)=true:=by simpa using hp0
  by_cases hcy:l.length<m+1
  ·have hcyz:(l.length:Int)<((m+1:Nat):Int):=by omega
   have Hn:RowKit.Hid (¬ PA):=fun h=>by
    obtain⟨d,hd,hle⟩:=HD.out.1 h
    rw[HDP.out,show l.length-m=0 by omega,deep_cycle _ _ hp0] at hd
    cases hd
   generalize y.parent=zp at u1 hpp
   clear hp0 u0 u2 u3 u4
   go_wp2
   go_ret
   exact RetIff.no 17 (by decide) Hn.out GW.out
  have hcyz:¬ (l.length:Int)<((m+1:Nat):Int):=by omega
  obtain⟨p,hfp⟩:=HF.out y HYM.out hp0
  obtain⟨k,hk,ek,e⟩:=brIdx_some hfp
  have hdn:deep l l.length ⟨yi,yp,yl,yt,ym,yk⟩=(deep l (l.length-(m+1)) p).map (· + (m+1)):=by
   rw[HDP.out,show l.length-m=(l.length-(m+1))+1 by omega,deep_up _ _ _ p hp0 hfp,Option.map_map]
   congr 1
   funext d
   simp
   omega
  have HDN:=Lib.hid hdn
  have HPM:=Lib.hid (show p∈l by rw[← e];exact List.getElem_mem hk)
  have kI:=fun W (hW:Grew w W)=>tIndex l y.parent rv (.slice (some ⟨b,off,none⟩) l.length c) W (HV.out.mono hW)
  rw[ek] at kI
  have hq:=HCELL.out k hk
  rw[e] at hq
  have HQ:=Lib.hid hq
  have KI:=Lib.hid kI
  have hkz:(k:Int)<(l.length:Int):=by omega
  have h0k:(0:Int)≤(k:Int):=by omega
  have HUU:=Lib.hid HU.out
  clear kI hq e ek hfp hdn hp0 HDP HU
  generalize hzp:y.parent=zp at u1 hpp KI
  clear hzp u0 u2 u3 u4
  obtain⟨pi,pp,pl,pt,pm,pk⟩:=p
  dsimp only at HQ
  obtain⟨_,-,hq⟩:=HQ.out
  obtain⟨d0,d1,d2,d3,d4,-⟩:=hq wr GW.out
  have f0:=Gr.cell d0
  have f1:=Gr.cell d1
  have f2:=Gr.cell d2
  have f3:=Gr.cell d3
  have f4:=Gr.cell d4
  have r0:=Gr.cell t0
  have r1:=Gr.cell t1
  have v1:=Gr.cell u1
  clear hq HQ d0 d1 d2 d3 d4
  go_wp2
  refine region_gr_last wr _ rfl (by kernel_rfl) (by kernel_rfl) (by kernel_rfl) (Grew.refl _) ?_
  simp only [blankLast]
  repeat (first|go_big_quiet_step ((go_at_call 63;exact Gr.calls _ (KI.out _ (GW.out.trans (Gr.g _)))))|quiet_step ((go_at_call 63;exact Gr.calls _ (KI.out _ (GW.out.trans (Gr.g _))))))
  refine wpQuiet_nil ?_
  intro _ hw'
  obtain⟨wi,rfl⟩:=hw'
  have HU1:=HUU.out.mono wi.g
  have HG1:=Lib.hid wi.g
  have hlt1:=HUU.out.lt
  have hlt2:=wi.g.size
  obtain⟨s0,s1,s2,s3,s4⟩:=HU1.cells
  have z0:=HU1.free 0
  have z1:=HU1.free 1
  have z2:=HU1.free 2
  have z3:=HU1.free 3
  have z4:=HU1.free 4
  clear HU1 u1 t0 t1 f0 f1 f2 f3 f4 r0 r1 v1
  go_simp
  go_wp2
  go_roundg (l.length+1-(m+1))
  case measure=>omega
  case rel =>
   refine⟨m+1,wi.W.heap.size,⟨pi,pp,pl,pt,pm,pk⟩,by go_num,rfl,by omega,by omega,by omega,(show Aside _ from HPM.out),?_,?_,(show Aside _ from HDN.out)⟩
   ·show HoldsU _ _ _
    with_reducible refine holdsU_lastH _ _ ?_ ⟨pi,pp,pl,pt,pm,pk⟩
    simp
   ·show Grew _ _
    with_reducible refine Grew.alloc ?_ _
    repeat (with_reducible refine Grew.setCell ?_ (by simpa using hC) _)
    exact BW.out.trans HG1.out
end Go.Proofs.YtdochkemaiokfaaGreat
/- authority: successors, Check, walked. The condition: the library's own variables hold what they must. -/
namespace Go.Proofs.YtdochkemaiokfaaGreat
open Go.RowKit
def RetIff2 (P:Prop) (w:World) (e:Ending) (w':World):Prop:=∃ i n:Int,e=.returned (.tuple #[.int .i64 i,.int .i64 n])∧(n=0↔P)∧Grew w w'
theorem RetIff2.no {P:Prop} {w w':World} (i n:Int) (hn:n≠0) (h:¬ P) (hg:Grew w w'):RetIff2 P w (.returned (.tuple #[.int .i64 i,.int .i64 n])) w':=⟨i,n,rfl,⟨fun e=>absurd e hn,fun e=>absurd e h⟩,hg⟩
theorem RetIff2.yes {P:Prop} {w w':World} (i:Int) (h:P) (hg:Grew w w'):RetIff2 P w (.returned (.tuple #[.int .i64 i,.int .i64 0])) w':=⟨i,0,rfl,⟨fun _=>h,fun _=>rfl⟩,hg⟩
end Go.Proofs.YtdochkemaiokfaaGreat
/- tree.Check, walked. The conditions: the library's own variables hold what they must; the lists are short. -/
namespace Go.Proofs.YtdochkemaiokfaaGreat
open Go.RowKit
set_option maxRecDepth 100000 in
set_option maxHeartbeats 8000000 in
theorem tCheck (rs:List Int) (l:List Br) (rv bv:Value) (w:World) (hE:Env w) (hr:SlI w rv rs) (hv:SlBr w bv l) (hf:FewBr l) (hrl:rs.length≤1000000) :
  Calls Tryz.prog 143 #[.agg #[rv,bv]] w (RetIff2 (RightT ⟨rs,l⟩) w):=by
 have HV:=Lib.hid hv
 have HE:=Lib.hid hE
 have HRR:=Lib.hid hr
 have HF:=Lib.hid hf
 obtain⟨A,c,rfl,hlc,hc,-⟩:=hv.open_
 unfold maxLen at hc
 clear hv hE
 obtain⟨Ar,cr,hrv,-,-,-⟩:=hr.open_
 clear hr hf
 by_cases h256:256<l.length
 ·have hb:(256:Int)<(l.length:Int):=by omega
  have Hn:RowKit.Hid (¬ RightT ⟨rs,l⟩):=fun h=>by have:=h.1;dsimp only at this;omega
  go_enter Tryz.func143,Tryz.ntmps143
  go_wp2
  go_ret2
  exact RetIff2.no _ 8 (by decide) Hn.out ((Grew.refl w).alloc _)
 have hb:¬ (256:Int)<(l.length:Int):=by omega
 have HD:RowKit.Hid (RightT ⟨rs,l⟩↔(∀ i (h:i<l.length),BrAlone l i h)∧(∀ i (h:i<l.length),BrPlaced l l[i])∧(∀ i (h:i<l.length),sortI l[i].kids=kidsOf l l[i].id)∧sortI rs=kidsOf l 0∧∀ i (h:i<l.length),BrDeep l l[i]):=⟨fun h=>h.2,fun h=>⟨by show l.length≤256;omega,h⟩⟩
 generalize RightT ⟨rs,l⟩=PR at HD ⊢
 have K1:=Lib.hid (fun i hi W (hW:Grew w W)=>tAlone l i hi rv (.slice A l.length c) W (HE.out.mono hW) (HV.out.mono hW))
 have K2:=Lib.hid (fun i hi W (hW:Grew w W)=>tPlaced l i hi rv (.slice A l.length c) W (HV.out.mono hW))
 have K3:=Lib.hid (fun i hi W (hW:Grew w W)=>tKids l i hi rv (.slice A l.length c) W (HV.out.mono hW) HF.out)
 have KJ:=Lib.hid (fun W (hW:Grew w W)=>tJust l 0 rs rv (.slice A l.length c) rv W (HV.out.mono hW) (HRR.out.mono hW) HF.out.1 hrl)
 have KD:=Lib.hid (fun(hP:∀ i (h:i<l.length),BrPlaced l l[i]) i hi W (hW:Grew w W)=>tDepth l i hi rv (.slice A l.length c) W (HV.out.mono hW) HF.out.1 hP)
 clear HV HE HRR HF
 subst hrv
 go_enter Tryz.func143,Tryz.ntmps143
 go_wp2
 refine wp_loop_rounds 5 ?_
 rw[rounds_succ]
 go_wp2
 have HG0:=Lib.hid (show Grew w ((w.alloc (.cells [.slice Ar rs.length cr,.slice A l.length c].toArray 43)).alloc (.cells [.func (.func 198) #[] #[],.func (.func 199) #[] #[],.func (.func 196) #[] #[],.func (.func 200) #[] #[]].toArray 190)) from((Grew.refl w).alloc _).alloc _)
 have HBA:=Lib.hid (Grew.refl ((w.alloc (.cells [.slice Ar rs.length cr,.slice A l.length c].toArray 43)).alloc (.cells [.func (.func 198) #[] #[],.func (.func 199) #[] #[],.func (.func 196) #[] #[],.func (.func 200) #[] #[]].toArray 190)))
 go_loopg [33] l.length (fun gg s33 wr=>∃ k:Nat,k≤l.length∧l.length-k≤gg∧s33=.int .i64 k∧Aside (Grew ((w.alloc (.cells [.slice Ar rs.length cr,.slice A l.length c].toArray 43)).alloc (.cells [.func (.func 198) #[] #[],.func (.func 199) #[] #[],.func (.func 196) #[] #[],.func (.func 200) #[] #[]].toArray 190)) wr)∧Aside (∀ i (h:i<l.length),i<k→BrAlone l i h))
 case atStart=>exact⟨0,by omega,by omega,rfl,(show Aside _ from Grew.refl _),(show Aside _ from fun i h h2=>by omega)⟩
 case round =>
  obtain⟨k,hk,hgk,rfl,BW,M⟩:=hrel
  have b0:=tree_cell (HBA.out.trans BW.out) 0 _ rfl
  have b1:=tree_cell (HBA.out.trans BW.out) 1 _ rfl
  by_cases hlt:k<l.length
  ·have hltz:(k:Int)<(l.length:Int):=by omega
   have HN:RowKit.Hid (¬ (BrAlone l k hlt)→¬ PR):=fun h h2=>h ((HD.out.1 h2).1 k hlt)
   have HY:RowKit.Hid ((BrAlone l k hlt)→∀ i (h:i<l.length),i<k+1→BrAlone l i h):=fun h i hi h2=>by
    by_cases e:i=k
    ·subst e;exact h
    ·exact M.out i hi (by omega)
   have KK:=Lib.hid (K1.out k hlt _ (HG0.out.trans (HBA.out.trans BW.out)))
   generalize (BrAlone l k hlt)=PK at HN HY KK
   go_wp2_with fail
   refine KK.out.mono ?_
   rintro e w1 ⟨n,rfl,hnn,g1⟩
   have HNN:=Lib.hid hnn
   have HG1:=Lib.hid g1
   clear hnn g1
   dsimp only
   by_cases hz:n=0
   ·subst hz
    have Hy:=Lib.hid (HY.out (HNN.out.1 rfl))
    go_wp2
    go_roundg (l.length-(k+1))
    case measure=>omega
    case rel=>exact⟨k+1,by omega,by omega,by go_num,(show Aside _ from BW.out.trans HG1.out),(show Aside _ from Hy.out)⟩
   ·have hz':(n != 0)=true:=by simpa using hz
    have Hz:=Lib.hid hz
    have Hn:RowKit.Hid (¬ PR):=HN.out (fun h=>Hz.out (HNN.out.2 h))
    clear hz
    go_wp2
    go_ret2
    exact RetIff2.no _ n Hz.out Hn.out ((HG0.out.trans (HBA.out.trans BW.out)).trans HG1.out)
  have hltz:¬ (k:Int)<(l.length:Int):=by omega
  have HALL1:=Lib.hid (fun i h=>M.out i h (by omega))
  have HB1:=Lib.hid (HBA.out.trans BW.out)
  have fn1:=newer_cell HB1.out 1 _ rfl
  obtain⟨wr1,rfl⟩:∃ wr1:World,wr1=wr:=⟨_,rfl⟩
  clear M BW
  go_wp2
  rw[rounds_succ]
  go_wp2
  go_loopg [33] l.length (fun gg s33 wr=>∃ k:Nat,k≤l.length∧l.length-k≤gg∧s33=.int .i64 k∧Aside (Grew wr1 wr)∧Aside (∀ i (h:i<l.length),i<k→BrPlaced l l[i]))
  case atStart=>exact⟨0,by omega,by omega,rfl,(show Aside _ from Grew.refl _),(show Aside _ from fun i h h2=>by omega)⟩
  case round =>
   obtain⟨k,hk,hgk,rfl,BW,M⟩:=hrel
   have b0:=tree_cell (HB1.out.trans BW.out) 0 _ rfl
   have b1:=tree_cell (HB1.out.trans BW.out) 1 _ rfl
   by_cases hlt:k<l.length
   ·have hltz:(k:Int)<(l.length:Int):=by omega
    have HN:RowKit.Hid (¬ (BrPlaced l l[k])→¬ PR):=fun h h2=>h ((HD.out.1 h2).2.1 k hlt)
    have HY:RowKit.Hid ((BrPlaced l l[k])→∀ i (h:i<l.length),i<k+1→BrPlaced l l[i]):=fun h i hi h2=>by
     by_cases e:i=k
     ·subst e;exact h
     ·exact M.out i hi (by omega)
    have KK:=Lib.hid (K2.out k hlt _ (HG0.out.trans (HB1.out.trans BW.out)))
    generalize (BrPlaced l l[k])=PK at HN HY KK
    go_wp2_with fail
    refine KK.out.mono ?_
    rintro e w1 ⟨n,rfl,hnn,g1⟩
    have HNN:=Lib.hid hnn
    have HG1:=Lib.hid g1
    clear hnn g1
    dsimp only
    by_cases hz:n=0
    ·subst hz
     have Hy:=Lib.hid (HY.out (HNN.out.1 rfl))
     go_wp2
     go_roundg (l.length-(k+1))
     case measure=>omega
     case rel=>exact⟨k+1,by omega,by omega,by go_num,(show Aside _ from BW.out.trans HG1.out),(show Aside _ from Hy.out)⟩
    ·have hz':(n != 0)=true:=by simpa using hz
     have Hz:=Lib.hid hz
     have Hn:RowKit.Hid (¬ PR):=HN.out (fun h=>Hz.out (HNN.out.2 h))
     clear hz
     go_wp2
     go_ret2
     exact RetIff2.no _ n Hz.out Hn.out ((HG0.out.trans (HB1.out.trans BW.out)).trans HG1.out)
   have hltz:¬ (k:Int)<(l.length:Int):=by omega
   have HALL2:=Lib.hid (fun i h=>M.out i h (by omega))
   have HB2:=Lib.hid (HB1.out.trans BW.out)
   have fn2:=newer_cell HB2.out 2 _ rfl
   obtain⟨wr2,rfl⟩:∃ wr2:World,wr2=wr:=⟨_,rfl⟩
   clear M BW
   go_wp2
   rw[rounds_succ]
   go_wp2
   go_loopg [33] l.length (fun gg s33 wr=>∃ k:Nat,k≤l.length∧l.length-k≤gg∧s33=.int .i64 k∧Aside (Grew wr2 wr)∧Aside (∀ i (h:i<l.length),i<k→sortI l[i].kids=kidsOf l l[i].id))
   case atStart=>exact⟨0,by omega,by omega,rfl,(show Aside _ from Grew.refl _),(show Aside _ from fun i h h2=>by omega)⟩
   case round =>
    obtain⟨k,hk,hgk,rfl,BW,M⟩:=hrel
    have b0:=tree_cell (HB2.out.trans BW.out) 0 _ rfl
    have b1:=tree_cell (HB2.out.trans BW.out) 1 _ rfl
    by_cases hlt:k<l.length
    ·have hltz:(k:Int)<(l.length:Int):=by omega
     have HN:RowKit.Hid (¬ (sortI l[k].kids=kidsOf l l[k].id)→¬ PR):=fun h h2=>h ((HD.out.1 h2).2.2.1 k hlt)
     have HY:RowKit.Hid ((sortI l[k].kids=kidsOf l l[k].id)→∀ i (h:i<l.length),i<k+1→sortI l[i].kids=kidsOf l l[i].id):=fun h i hi h2=>by
      by_cases e:i=k
      ·subst e;exact h
      ·exact M.out i hi (by omega)
     have KK:=Lib.hid (K3.out k hlt _ (HG0.out.trans (HB2.out.trans BW.out)))
     generalize (sortI l[k].kids=kidsOf l l[k].id)=PK at HN HY KK
     go_wp2_with fail
     refine KK.out.mono ?_
     rintro e w1 ⟨n,rfl,hnn,g1⟩
     have HNN:=Lib.hid hnn
     have HG1:=Lib.hid g1
     clear hnn g1
     dsimp only
     by_cases hz:n=0
     ·subst hz
      have Hy:=Lib.hid (HY.out (HNN.out.1 rfl))
      go_wp2
      go_roundg (l.length-(k+1))
      case measure=>omega
      case rel=>exact⟨k+1,by omega,by omega,by go_num,(show Aside _ from BW.out.trans HG1.out),(show Aside _ from Hy.out)⟩
     ·have hz':(n != 0)=true:=by simpa using hz
      have Hz:=Lib.hid hz
      have Hn:RowKit.Hid (¬ PR):=HN.out (fun h=>Hz.out (HNN.out.2 h))
      clear hz
      go_wp2
      go_ret2
      exact RetIff2.no _ n Hz.out Hn.out ((HG0.out.trans (HB2.out.trans BW.out)).trans HG1.out)
    have hltz:¬ (k:Int)<(l.length:Int):=by omega
    have HALL3:=Lib.hid (fun i h=>M.out i h (by omega))
    have HB3:=Lib.hid (HB2.out.trans BW.out)
    have fn3:=newer_cell HB3.out 3 _ rfl
    obtain⟨wr3,rfl⟩:∃ wr3:World,wr3=wr:=⟨_,rfl⟩
    clear M BW
    go_wp2
    rw[rounds_succ]
    have kj:=KJ.out wr3 (HG0.out.trans HB3.out)
    have K4:=Lib.hid (KD.out HALL2.out)
    by_cases hS:sortI rs=kidsOf l 0
    case neg =>
     rw[decide_eq_false hS] at kj
     have KJ2:=Lib.hid kj
     have Hn:RowKit.Hid (¬ PR):=fun h=>hS (HD.out.1 h).2.2.2.1
     clear kj hS
     go_wp2_with fail
     refine KJ2.out.mono ?_
     rintro e w1 ⟨rfl,g1⟩
     dsimp only
     go_wp2
     go_ret2
     exact RetIff2.no _ 10 (by decide) Hn.out ((HG0.out.trans HB3.out).trans g1)
    rw[decide_eq_true hS] at kj
    have KJ2:=Lib.hid kj
    have HSS:=Lib.hid hS
    clear kj hS
    go_wp2_with fail
    refine KJ2.out.mono ?_
    rintro e w4 ⟨rfl,g4⟩
    have HB4:=Lib.hid (HB3.out.trans g4)
    have q0:=tree_cell HB4.out 0 _ rfl
    have q1:=tree_cell HB4.out 1 _ rfl
    clear g4
    dsimp only
    go_wp2
    go_loopg [33] l.length (fun gg s33 wr=>∃ k:Nat,k≤l.length∧l.length-k≤gg∧s33=.int .i64 k∧Aside (Grew w4 wr)∧Aside (∀ i (h:i<l.length),i<k→BrDeep l l[i]))
    case atStart=>exact⟨0,by omega,by omega,rfl,(show Aside _ from Grew.refl _),(show Aside _ from fun i h h2=>by omega)⟩
    case round =>
     obtain⟨k,hk,hgk,rfl,BW,M⟩:=hrel
     have b0:=tree_cell (HB4.out.trans BW.out) 0 _ rfl
     have b1:=tree_cell (HB4.out.trans BW.out) 1 _ rfl
     by_cases hlt:k<l.length
     ·have hltz:(k:Int)<(l.length:Int):=by omega
      have HN:RowKit.Hid (¬ (BrDeep l l[k])→¬ PR):=fun h h2=>h ((HD.out.1 h2).2.2.2.2 k hlt)
      have HY:RowKit.Hid ((BrDeep l l[k])→∀ i (h:i<l.length),i<k+1→BrDeep l l[i]):=fun h i hi h2=>by
       by_cases e:i=k
       ·subst e;exact h
       ·exact M.out i hi (by omega)
      have KK:=Lib.hid (K4.out k hlt _ (HG0.out.trans (HB4.out.trans BW.out)))
      generalize (BrDeep l l[k])=PK at HN HY KK
      go_wp2_with fail
      refine KK.out.mono ?_
      rintro e w1 ⟨n,rfl,hnn,g1⟩
      have HNN:=Lib.hid hnn
      have HG1:=Lib.hid g1
      clear hnn g1
      dsimp only
      by_cases hz:n=0
      ·subst hz
       have Hy:=Lib.hid (HY.out (HNN.out.1 rfl))
       go_wp2
       go_roundg (l.length-(k+1))
       case measure=>omega
       case rel=>exact⟨k+1,by omega,by omega,by go_num,(show Aside _ from BW.out.trans HG1.out),(show Aside _ from Hy.out)⟩
      ·have hz':(n != 0)=true:=by simpa using hz
       have Hz:=Lib.hid hz
       have Hn:RowKit.Hid (¬ PR):=HN.out (fun h=>Hz.out (HNN.out.2 h))
       clear hz
       go_wp2
       go_ret2
       exact RetIff2.no _ n Hz.out Hn.out ((HG0.out.trans (HB4.out.trans BW.out)).trans HG1.out)
     have hltz:¬ (k:Int)<(l.length:Int):=by omega
     have HALL4:=Lib.hid (fun i h=>M.out i h (by omega))
     have Hy:RowKit.Hid PR:=HD.out.2 ⟨HALL1.out,HALL2.out,HALL3.out,HSS.out,HALL4.out⟩
     have HWE:=Lib.hid (HG0.out.trans (HB4.out.trans BW.out))
     go_wp2
     rw[rounds_succ]
     go_wp2
     go_ret2
     exact RetIff2.yes _ Hy.out HWE.out
end Go.Proofs.YtdochkemaiokfaaGreat
/- authority: clone, own, Find, walked. No condition but the sizes that a slice can have. -/
namespace Go.Proofs.YtdochkemaiokfaaGreat
open Go.RowKit
theorem own_slice {w:World} {base:Nat} {e:TypeId} {k:Nat} {v:Value} {n:Nat} {xs:List Value} (h:w.ownsRow base e k v n xs):∃ A c,v=.slice A n c:=by
 rcases h.2 with ⟨rfl,rfl⟩|⟨g,cap,cur,rfl,_⟩
 ·exact⟨_,_,rfl⟩
 ·exact⟨_,_,rfl⟩
end Go.Proofs.YtdochkemaiokfaaGreat