/- Lemmas on what the functions of the program and of the library compute: SlR, EqR, App, App2, T4, Gr2, T5, A5, T6. The conditions stand at each. -/
import Derived.Test.YtdochkemaiokfaaGreatProg
import Derived.Test.YtdochkemaiokfaaGreatQ1
import Derived.Lib.LazyBuf
import Derived.Test.YtdochkemaiokfaaGreatQ2
import Derived.Deep.RegionHeld3
set_option maxHeartbeats 16000000
set_option maxRecDepth 100000
set_option linter.all false
namespace Go.Proofs.YtdochkemaiokfaaGreat
open Go.RowKit
theorem c_57 {p:Prop} (h:p:=by
 intro j u hu
 have h0:0<l.length:=by
  rcases Nat.eq_zero_or_pos l.length with h|h
  ·have:=(List.getElem?_eq_some_iff.1 hu).1
   rw[hfl,h] at this;omega
  ·exact h
 obtain⟨b,off,hA,_,hcell⟩:=hr h0;cases hA;rw[bT];exact hcell j u hu
):p:=h
theorem c_64 {p:Prop} (h:p:=by
 intro v' w1 hown hgrow _;go_wp2;go_ret;refine⟨v',rfl,by simpa using hown,?_⟩;exact Below.grown ((Below.refl w.heap.size w).alloc (Nat.le_refl _) _) hgrow b_54 (fun k hk=>by simp[Value.ownBlock] at hk;omega)
):p:=h
theorem c_107 {p:Prop} (h:p:=by
 rcases Nat.eq_zero_or_pos l.length with h|h
 ·exact h
 ·obtain⟨b,off,hA,_⟩:=hr h
  cases hA
):p:=h
theorem c_122 {p:Prop} (h:p:=by
 go_wp2;go_ret;exact⟨_,rfl,World.ownsRow_nil _ _ _ _,uX w⟩
):p:=h
theorem aTo (l:List Int) (x:Int) (v:Value) (w:World) (hv:SlI w v l) :
  Calls Tryz.prog 58 #[v,.int .i64 x] w fun e w'=>e=.returned (.int .i64 (lL (fun y=>(x == y)) l))∧w=w':=by
 obtain⟨A,c,rfl,hlc,hc,hr⟩:=hv.open_;unfold maxLen at hc;have HR:=uZ hr;clear hr hv;generalize hp:(fun y:Int=>(x == y))=p;have HP:=uZ hp;clear hp;go_enter Tryz.func58,Tryz.ntmps58;go_wp2
 go_loop [5,8] (fun _ s8=>∃ kk:Nat,kk≤l.length∧s8=.int .i64 kk∧Aside (∀ i (hi:i<l.length),i<kk→p l[i]=false)) (fun _ i=>l.length-(intOf i).toNat)
 case atStart=>exact⟨0,Nat.zero_le _,rfl,fun i hi h=>absurd h (Nat.not_lt_zero _)⟩
 case round =>
  obtain⟨kk,hkk,rfl,M⟩:=hrel;by_cases hlt:kk<l.length
  ·obtain⟨b,off,rfl,hb,hcell⟩:=HR.out b_53
   have c0:=hcell w (uX w) kk hlt;clear hcell;have hq0:p l[kk]=(x == l[kk]):=by rw[← HP.out]
   generalize hy:l[kk]=y at c0 hq0;have B:Aside (l[kk]=y):=hy;clear hy
   cases hq:p y with
   | true =>
    rw[hq] at hq0;have hq1:=hq0.symm;have Hq:Aside (p y=true):=hq;clear hq0 hq;go_wp2;go_ret;refine⟨?_,rfl⟩;rw[eW p l kk hlt (by rw[B.out];exact Hq.out) M.out];rfl
   | false =>
    rw[hq] at hq0;have hq1:=hq0.symm;have Hq:Aside (p y=false):=hq;clear hq0 hq;go_wp2
    go_round
    case measure=>simp[intOf];omega
    case rel =>
     refine⟨kk+1,by omega,by go_num,(show Aside _ from fun i hi h=>?_)⟩;by_cases e:i=kk
     ·subst e
      rw[B.out];exact Hq.out
     ·exact M.out i hi b_53
  ·go_wp2
   go_ret;refine⟨?_,rfl⟩;rw[eA p l (fun i hi=>M.out i hi b_53)];rfl
theorem tJ (l:List Int) (x:Int) (v:Value) (w:World) (hv:SlI w v l) :
  Calls Tryz.prog 35 #[v,.int .i64 x] w fun e w'=>e=.returned (.bool (l.any fun y=>(x == y)))∧w=w':=by
 have hi:=uZ (aTo l x v w hv);have hd:=pD (fun y=>(x == y)) l;generalize lL (fun y=>(x == y)) l=i at hi hd;have Hd:=uZ hd;clear hv hd;go_enter Tryz.func35,Tryz.ntmps35;go_wp2_with (first|(go_at_call 58;refine hi.out.mono ?_;rintro e w1 ⟨rfl,rfl⟩))
 go_ret;exact⟨aV Hd.out,rfl⟩
theorem lJ:(Tryz.prog.info? 3).map (fun i=>(i.zero,i.size,i.bytes))=some (some (.int .i64 0),1,8):=by kernel_rfl
theorem fI (l:List Int):∀ u∈l.flatMap eE,u.oneCell'=true:=by
 intro u hu;rw[List.mem_flatMap] at hu;obtain⟨x,_,hx⟩:=hu;simp[eE] at hx;rcases hx with rfl<;>rfl
theorem aTr (l:List Int) (v:Value) (w:World) (hv:SlI w v l) (hb:l.length*8≤140737488355328) :
  Calls Tryz.prog 144 #[v] w fun e w'=>∃ v',e=.returned v'∧w'.ownsRow w.heap.size 3 1 v' l.length (l.flatMap eE)∧aA w w':=by
 obtain⟨A,n,c,rfl,hl,hn,hc,hr⟩:=hv;have hfl:=aL eE 1 (fun _=>rfl) l;obtain rfl:n=l.length:=by omega
 unfold maxLen at hc;have q22:∀(w:World) (a:Option Addr) (n c:Nat),(binOp .eql 38 (.slice a n c) (.slice none 0 0)).run Tryz.prog w=.ok (.bool a.isNone) w:=fun w a n c=>Lib.run_eql_slice_nil w _ _ a n c 0 0 Tryz.underlying38
 cases A with
 | none =>
  have h0:l.length=0:=by
   exact c_107
  obtain rfl:l=[]:=List.eq_nil_of_length_eq_zero h0;clear hr hl hn hfl h0 hb;go_enter Tryz.func144,Tryz.ntmps144;exact c_122
 | some ad =>
  have hcells:∀ j u,(l.flatMap eE)[j]? = some u→w.cell? (ad.add j)=some u:=by
   exact c_57
  have HC:=uZ hcells;have H1:=uZ (fI l);have HL:=uZ hl;generalize l.flatMap eE=cs at HC H1 HL ⊢;clear hcells hr hl hfl;obtain⟨i0,hi,hz0,hz1,hz2⟩:=info_parts lJ;go_enter Tryz.func144,Tryz.ntmps144;go_wp2_with (at_builtin;refine wpList_append_own _ rfl _ _ 38 rfl w.heap.size 3 i0 (.int .i64 0) 1 8 Tryz.underlying38 hi hz0 hz1 hz2 rfl b_53 _ _ _ rfl (World.ownsRow_made w #[] 0 (Nat.le_refl _) (Nat.zero_le _) b_54) ad l.length c cs rfl ?qc1 ?qc2 ?qc3 ?qc4 ?qc5 ?qc6 ?_)
  case qc1=>exact HL.out
  case qc2=>exact fun j u hu=>(aA.cell ((uX w).alloc _) (by
   have:=block_lt_of_cell (HC.out j u hu)
   exact this)).trans (HC.out j u hu)
  case qc3=>exact H1.out
  case qc4=>unfold maxLen;omega
  case qc5=>omega
  case qc6=>simp
  exact c_64
theorem c_56 {p:Prop} (h:p:=by
 have Hs:RowKit.Hid (D=true):=by
  have h:=M.out;rw[List.take_of_length_le b_53,List.take_of_length_le (by have:=HL.out;omega)] at h;show D=true;rw[← HD.out,decide_eq_true_iff];exact h
 go_wp2;go_ret;exact⟨aV Hs.out.symm,BW.out⟩
):p:=h
theorem c_68 {p:Prop} (h:p:=by
 go_wp2;go_quiet (fail);go_wp2;go_roundg (l.length-(kk+1))
 case measure=>omega
 case rel=>exact⟨kk+1,by omega,by omega,by go_num,(show Aside _ from BW.out.drewN _),(show Aside _ from Hs.out)⟩
):p:=h
theorem c_129 {p:Prop} (h:p:=by
 go_wp2;go_ret;exact⟨rfl,uX w⟩
):p:=h
theorem h_38 {p:Prop} (h:p:=by
 exact(show RowKit.Hid (l[kk]=m[kk]→l.take (kk+1)=m.take (kk+1)) from fun h=>by rw[List.take_succ_eq_append_getElem hlt,List.take_succ_eq_append_getElem hlt2,M.out,h])
):p:=h
theorem h_60 {p:Prop} (h:p:=by
 exact(show RowKit.Hid (l[kk]≠m[kk]→D=false) from fun h=>by
  rw[← HD.out,decide_eq_false_iff_not]
  exact fun e=>h (by simp[e]))
):p:=h
theorem s_57 {p:Prop} (h:p:=by
 obtain⟨A,c,rfl,hlc,hc,hr⟩:=hv.open_;obtain⟨A',c',rfl,hlc',hc',hr'⟩:=hu.open_;unfold maxLen at hc hc';have HR:=uZ hr;have HR':=uZ hr';exact nX.g
):p:=h
def zId:=Unit
theorem zId.g {p:Prop} (_:zId) (h:p:=by
 clear hr hr' hv hu;by_cases hl:l.length=m.length
 case neg =>
  have hd:decide (l=m)=false:=by rw[decide_eq_false_iff_not];exact fun h=>hl (by rw[h])
  rw[hd];have hne:((l.length:Int) != (m.length:Int))=true:=by rw[bne_iff_ne];omega
  clear hl hd;go_enter Tryz.func26,Tryz.ntmps26;exact c_129
 have hne:((l.length:Int) != (m.length:Int))=false:=by rw[bne_eq_false_iff_eq];omega
 generalize hD:decide (l=m)=D;have HD:=uZ hD;have HL:=uZ hl;clear hD hl;go_enter Tryz.func26,Tryz.ntmps26;go_wp2;go_loopg [5,13] l.length (fun gg _ s wr=>∃ kk:Nat,kk≤l.length∧l.length-kk≤gg∧s=.int .i64 kk∧Aside (aA w wr)∧Aside (l.take kk=m.take kk))
 case atStart=>exact⟨0,Nat.zero_le _,by omega,rfl,uX w,rfl⟩
 case round =>
  obtain⟨kk,hkk,hg,rfl,BW,M⟩:=hrel;by_cases hlt:kk<l.length
  ·have hlt2:kk<m.length:=by have:=HL.out;omega
   have hltz:=h_201;have hltz2:(kk:Int)<(m.length:Int):=by omega
   obtain⟨b,off,rfl,hb,hcell⟩:=HR.out b_53;obtain⟨b',off',rfl,hb',hcell'⟩:=HR'.out b_53;obtain c0:=hcell wr BW.out kk hlt;obtain d0:=hcell' wr BW.out kk hlt2;clear hcell hcell';have Hstep:=h_38;have Hbad:=h_60;generalize l[kk]=x at c0 Hstep Hbad;generalize m[kk]=y at d0 Hstep Hbad;by_cases hxy:x=y
   ·have Hs:=uZ (Hstep.out hxy)
    have hq1:(x == y)=true:=by rw[hxy];simp
    clear hxy Hstep Hbad;exact c_68
   ·have Hs:=uZ (Hbad.out hxy)
    have hq1:(x == y)=false:=by simpa using hxy
    clear hxy Hstep Hbad;go_wp2;go_quiet (fail);go_wp2;go_ret;exact⟨aV Hs.out.symm,BW.out.drewN _⟩
  ·have hltz:¬ (kk:Int)<(l.length:Int):=by omega
   exact c_56
):p:=h
theorem aNa (l m:List Int) (v u:Value) (w:World) (hv:SlI w v l) (hu:SlI w u m) :
  Calls Tryz.prog 26 #[v,u] w fun e w'=>e=.returned (.bool (decide (l=m)))∧aA w w':=by
 have nX:zId:=()
 exact s_57
theorem bEm {P:Program} {ops:Array Oper} {rest:List Oper} {o:Oper} {a:Act} {Q:Exit→Act→World→Prop} (hgd:o.guard=none) (s x:Operand) (t:TypeId)
  (ho:o.op=.call { callee:=.builtin .append,args:=#[s,x],argTypes:=#[t,t] })
  (w0:World) (e:TypeId) (i:TypeInfo) (z:Value) (size bytes:Nat) (ht:P.underlying t=some (.slice e)) (hi:P.info? e=some i) (hz:i.zero=some z)
  (hsize:i.size=size) (hby:i.bytes=bytes) (hzs:z.cells.size=size) (hsz:0<size)
  (v:Value) (n:Nat) (xs:List Value) (hs:a.eval s=v) (wr:World) (hown:wr.ownsRow w0.heap.size e size v n xs) (hg:aA w0 wr)
  (cs:List Value) (hx:a.eval x=.slice (some ⟨wr.heap.size,0,none⟩) 1 1) (hl:cs.length=size) (h1:cs.all (·.oneCell')=true)
  (h63:n+1≤maxLen) (hbytes:(n+1)*bytes≤140737488355328)
  (h:∀ v' w',w'.ownsRow w0.heap.size e size v' (n+1) (xs++cs)→aA w0 w'→wpList P ops Q rest (a.put o.dst v') w'):wpList P ops Q (o::rest) a (wr.alloc (.cells cs.toArray e)):=by
 refine wpList_append_own _ hgd s x t ho w0.heap.size e i z size bytes ht hi hz hsize hby hzs hsz v n xs hs (hown.alloc _) ⟨wr.heap.size,0,none⟩ 1 1 cs hx b_53 ?_ ?_ h63 hbytes ?_ ?_
 ·intro j u hu
  have hlast:(wr.alloc (.cells cs.toArray e)).heap[wr.heap.size]? = some (.cells cs.toArray e):=heap_alloc_last wr _;rw[bT,Nat.zero_add,cell_of_row _ _ _ _ _ _ hlast];simpa using hu
 ·exact fun u hu=>List.all_eq_true.1 h1 u hu
 ·have:=hg.size
  simp;omega
 ·intro v' w' h2 h3 _
  refine h v' w' h2 ?_;refine Below.grown (hg.alloc _) h3 (by have:=hg.size;simp;omega) (fun k hk=>?_);exact(hown.lt k hk).1
theorem h_72 {p:Prop} (h:p:=by
 exact(show m'=0 from by
  rcases Nat.eq_zero_or_pos m' with h0|h0
  ·exact h0
  ·obtain⟨b,off,hA,_⟩:=hr h0
   cases hA)
):p:=h
theorem h_129 {p:Prop} (h:p:=by
 exact(show 0<m' from by
  rcases Nat.eq_zero_or_pos m' with h0|h0
  ·subst h0;omega
  ·exact h0)
):p:=h
theorem h_183 {p:Prop} (h:p:=by
 exact iS wr w0.heap.size t o.type e i size ht hi v n xs hown c
):p:=h
theorem h_190 {p:Prop} (h:p:=by
 exact(show cs=[] from List.eq_nil_of_length_eq_zero b_53)
):p:=h
theorem iS {P:Program} (w:World) (base:Nat) (t ty e:TypeId) (i:TypeInfo) (size:Nat) (ht:P.underlying t=some (.slice e)) (hi:P.info? e=some i) (v:Value) (n:Nat) (xs:List Value) (hown:w.ownsRow base e size v n xs) (c:Nat) :
  (Builtin.append_ #[t,t] ty #[v,.slice none 0 c]).run P w=.ok v w:=by
 rcases hown.2 with ⟨rfl,rfl⟩|⟨g,cap,cur,rfl,_,_,hle,_⟩
 ·simp[Builtin.append_,run_underlying ht,sizeOf,typeInfo,hi,Builtin.lenOf,Builtin.firstCells]
 ·simp[Builtin.append_,run_underlying ht,sizeOf,typeInfo,hi,Builtin.lenOf,Builtin.firstCells,hle,storeCells]
theorem wpR {P:Program} {o:Oper} {a:Act} {K:Act→World→Prop} {Q:Exit→Act→World→Prop} (s x:Operand) (t:TypeId)
  (ho:o.op=.call { callee:=.builtin .append,args:=#[s,x],argTypes:=#[t,t] })
  (w0:World) (e:TypeId) (i:TypeInfo) (z:Value) (size bytes:Nat) (ht:P.underlying t=some (.slice e)) (hi:P.info? e=some i) (hz:i.zero=some z)
  (hsize:i.size=size) (hby:i.bytes=bytes) (hzs:z.cells.size=size) (hsz:0<size)
  (v:Value) (n:Nat) (xs:List Value) (hs:a.eval s=v) (wr:World) (hown:wr.ownsRow w0.heap.size e size v n xs) (hg:aA w0 wr)
  (u:Value) (m:Nat) (cs:List Value) (hx:a.eval x=u) (hu:Rd wr size u cs) (hl:cs.length=m*size) (h1:∀ u∈cs,u.oneCell'=true)
  (h63:n+m≤maxLen) (hbytes:(n+m)*bytes≤140737488355328)
  (h:∀ v' w',w'.ownsRow w0.heap.size e size v' (n+m) (xs++cs)→aA w0 w'→(∀ p x,wr.cell? p=some x→some p.block≠v.ownBlock→w'.cell? p=some x)→K (a.put o.dst v') w'):o.wp P a wr K Q:=by
 obtain⟨A,m',c,rfl,hl',hmc,_,hr⟩:=hu;obtain rfl:m'=m:=Nat.eq_of_mul_eq_mul_right hsz (hl'.symm.trans hl)
 cases A with
 | none =>
  have hm0:=h_72;subst hm0;have hcs:=h_190;subst hcs;have hrun:=h_183;unfold Oper.wp execOp;simp only [ho,resolve,invoke,builtin,Sem.run_bind,Sem.run_pure,Result.andThen_ok,List.map_toArray,List.map_cons,List.map_nil,hs,hx,hrun];exact h v wr (by simpa using hown) hg (fun p x hp _=>hp)
 | some ad =>
  refine wp_append_own wr s x t ho w0.heap.size e i z size bytes ht hi hz hsize hby hzs hsz v n xs hs hown ad m' c cs hx hl ?_ h1 h63 hbytes hg.size ?_
  ·intro j u hu
   have hj:=(List.getElem?_eq_some_iff.1 hu).1;have h0:=h_129;obtain⟨b,off,hA,_,hcell⟩:=hr h0;cases hA;rw[bT];exact hcell j u hu
  ·intro v' w' h2 h3 _
   exact h v' w' h2 (Below.grown hg h3 hg.size (fun k hk=>(hown.lt k hk).1)) (fun p x hp hne=>h3.cell hp hne)
theorem aXi {P:Program} {ops:Array Oper} {rest:List Oper} {o:Oper} {a:Act} {Q:Exit→Act→World→Prop} (hgd:o.guard=none) (s x:Operand) (t:TypeId)
  (ho:o.op=.call { callee:=.builtin .append,args:=#[s,x],argTypes:=#[t,t] })
  (w0:World) (e:TypeId) (i:TypeInfo) (z:Value) (size bytes:Nat) (ht:P.underlying t=some (.slice e)) (hi:P.info? e=some i) (hz:i.zero=some z)
  (hsize:i.size=size) (hby:i.bytes=bytes) (hzs:z.cells.size=size) (hsz:0<size)
  (v:Value) (n:Nat) (xs:List Value) (hs:a.eval s=v) (wr:World) (hown:wr.ownsRow w0.heap.size e size v n xs) (hg:aA w0 wr)
  (u:Value) (m:Nat) (cs:List Value) (hx:a.eval x=u) (hu:Rd wr size u cs) (hl:cs.length=m*size) (h1:∀ u∈cs,u.oneCell'=true)
  (h63:n+m≤maxLen) (hbytes:(n+m)*bytes≤140737488355328)
  (h:∀ v' w',w'.ownsRow w0.heap.size e size v' (n+m) (xs++cs)→aA w0 w'→(∀ p x,wr.cell? p=some x→some p.block≠v.ownBlock→w'.cell? p=some x)→wpList P ops Q rest (a.put o.dst v') w'):wpList P ops Q (o::rest) a wr :=
 wpList_plain hgd fun _ hK=>wpR s x t ho w0 e i z size bytes ht hi hz hsize hby hzs hsz v n xs hs wr hown hg u m cs hx hu hl h1 h63 hbytes fun v' w' h2 h3 h4=>hK _ _ (h v' w' h2 h3 h4)
theorem aEa {P:Program} {ops:Array Oper} {rest:List Oper} {o:Oper} {a:Act} {Q:Exit→Act→World→Prop} (hgd:o.guard=none) (s x:Operand) (t:TypeId)
  (ho:o.op=.call { callee:=.builtin .append,args:=#[s,x],argTypes:=#[t,t] })
  (w0:World) (e:TypeId) (i:TypeInfo) (z:Value) (size bytes:Nat) (ht:P.underlying t=some (.slice e)) (hi:P.info? e=some i) (hz:i.zero=some z)
  (hsize:i.size=size) (hby:i.bytes=bytes) (hzs:z.cells.size=size) (hsz:0<size)
  (v:Value) (n:Nat) (xs:List Value) (hs:a.eval s=v) (wr:World) (hown:wr.ownsRow w0.heap.size e size v n xs) (hg:aA w0 wr) (H:Nat) (hH:wr.heap.size=H)
  (cs:List Value) (hx:a.eval x=.slice (some ⟨H,0,none⟩) 1 1) (hl:cs.length=size) (h1:cs.all (·.oneCell')=true)
  (h63:n+1≤maxLen) (hbytes:(n+1)*bytes≤140737488355328)
  (h:∀ v' w',w'.ownsRow w0.heap.size e size v' (n+1) (xs++cs)→aA w0 w'→wpList P ops Q rest (a.put o.dst v') w'):wpList P ops Q (o::rest) a (wr.alloc (.cells cs.toArray e)):=by
 subst hH;exact bEm hgd s x t ho w0 e i z size bytes ht hi hz hsize hby hzs hsz v n xs hs wr hown hg cs hx hl h1 h63 hbytes h
theorem h_198 {p:Prop} (h:p:=by
 exact(show ¬ (k:Int)<(l.length:Int) from by omega)
):p:=h
theorem yX (l:List Br) (id:Int) (k:Nat) (hk:k<l.length):bH (l.take (k+1)) id=bH (l.take k) id++(if l[k].parent == id then[l[k].id] else[]):=by
 unfold bH;rw[List.take_succ_eq_append_getElem hk,List.filter_append,List.map_append]
 congr 1
 by_cases h:(l[k].parent == id)=true
 ·simp[h]
 ·simp[h]
theorem aFi (l:List Br) (id:Int) (k:Nat):(bH (l.take k) id).length≤l.length:=by
 unfold bH;rw[List.length_map];exact Nat.le_trans (List.length_filter_le _ _) b_41
theorem aUi (l:List Br) (id:Int) (ks:List Int) (rv bv kv:Value) (w:World) (hv:bQ w bv l) (hk:SlI w kv ks) (hl:l.length≤1000000) (hkl:ks.length≤1000000) :
  Calls Tryz.prog 197 #[.agg #[rv,bv],.int .i64 id,kv] w fun e w'=>e=.returned (.bool (decide (sortI ks=bH l id)))∧aA w w':=by
 have HK:=uZ hk;obtain⟨A,c,rfl,hlc,hc,hr⟩:=hv.open_;have HR:=uZ hr;obtain⟨Ak,ck,rfl,-,-,-⟩:=hk.open_;obtain⟨i0,hi,hz0,hz1,hz2⟩:=info_parts lJ;clear hv hr hk hc hlc;generalize hD:decide (sortI ks=bH l id)=D;have HD:=uZ hD;clear hD;go_enter Tryz.func197,Tryz.ntmps197;go_wp2;go_loopg [7,13] l.length (fun gg s7 s13 wr=>∃ k:Nat,k≤l.length∧l.length-k≤gg∧s13=.int .i64 k∧Aside (wr.ownsRow w.heap.size 3 1 s7 (bH (l.take k) id).length ((bH (l.take k) id).flatMap eE))∧Aside (aA w wr))
 case atStart=>exact⟨0,by omega,by omega,rfl,(show Aside _ from World.ownsRow_nil _ _ _ _),(show Aside _ from(uX w).alloc _)⟩
 case round =>
  obtain⟨k,hkk,hgk,rfl,OW,BW⟩:=hrel;by_cases hlt:k<l.length
  case neg =>
   have hltz:=h_198;have hT:l.take k=l:=List.take_of_length_le b_53;have HS:=uZ (show SlI wr _ (bH (l.take k) id) from Rd.of_own OW.out);rw[hT] at HS;clear hT OW;go_wp2_with fail;refine(aBq Ak ks.length ck wr).mono ?_;rintro e w1 ⟨rfl,hw1⟩;have hg1:aA wr w1:=by rw[← hw1];exact(uX wr).alloc _
   have hc1:w1.cell? ⟨wr.heap.size,0,none⟩=some (.slice Ak ks.length ck):=by rw[← hw1];simp
   have KS:=uZ (aBv (.slice Ak ks.length ck) ks hkl wr.heap.size w1 w (World.block_lt_of_cell? w1 _ hc1) (BW.out.trans hg1) hc1 HK.out);have HS1:=uZ (HS.out.mono hg1);have HW1:=uZ (BW.out.trans hg1);clear hw1 hg1 hc1 HS;dsimp only;go_wp2_with fail;refine KS.out.mono ?_;rintro e w2 ⟨v2,rfl,hs2,g2⟩;have HS2:=uZ hs2;have HS12:=uZ (HS1.out.mono g2);have HW2:=uZ (HW1.out.trans g2);clear hs2 g2 KS HS1;dsimp only;go_wp2_with fail;refine(aNa _ _ _ _ _ HS2.out HS12.out).mono ?_;rintro e w3 ⟨rfl,g3⟩;rw[HD.out];dsimp only;go_wp2;go_ret;exact⟨rfl,HW2.out.trans g3⟩
  have hltz:=h_208;have h0z:=h_216;obtain⟨b,off,rfl,hb,hcell⟩:=HR.out b_53;obtain⟨kvv,hkv,hcl⟩:=hcell k hlt;obtain⟨c0,c1,c2,c3,c4,c5⟩:=hcl wr BW.out;have HT:=uZ (yX l id k hlt);have hlen:=aFi l id k;obtain⟨Az,cz,rfl,-,-,-⟩:=hkv.open_;clear hcell hcl hkv;generalize l[k]=y at c0 c1 c2 c3 c4 c5 HT;obtain⟨yi,yp,yl,yt,ym,yk⟩:=y;dsimp only at c0 c1 c2 c3 c4 c5 HT
  cases a1:(yp == id) with
  | false =>
   rw[a1] at HT;go_wp2;go_roundg (l.length-(k+1))
   case measure=>omega
   case rel =>
    refine⟨k+1,by omega,by omega,by go_num,?_,(show Aside _ from BW.out.alloc _)⟩;have:=HT.out;simp only [Bool.false_eq_true,if_false,List.append_nil] at this;rw[this];exact(show Aside _ from OW.out.alloc _)
  | true =>
   rw[a1] at HT;go_wp2_with (at_builtin;refine aEa rfl _ _ 38 rfl w 3 i0 (.int .i64 0) 1 8 Tryz.underlying38 hi hz0 hz1 hz2 rfl b_53 _ _ _ b_55 (wr.alloc (.cells #[.int .i64 yi,.int .i64 yp,.int .i64 yl,.string yt,.string ym,.slice Az yk.length cz] 66)) (OW.out.alloc _) (BW.out.alloc _) (wr.heap.size+1) b_54 [.int .i64 yi] b_55 rfl rfl b_47 b_53 ?_;intro v8 w8 hown8 hg8)
   have OW8:Aside _:=hown8;have BW8:Aside _:=hg8;clear hown8 hg8;go_wp2;go_roundg (l.length-(k+1))
   case measure=>omega
   case rel =>
    refine⟨k+1,by omega,by omega,by go_num,?_,BW8⟩;have:=HT.out;simp only [if_true] at this;rw[this,List.flatMap_append,List.length_append];exact OW8
section
variable {P:Program} {md:Region.Mode} {ops ops':Array Oper} {C:World→Prop}
structure jW (md:Region.Mode) (ops ops':Array Oper) (n:Nat) (o:Oper):Prop where
 size:ops.size=n+1
 size':ops'.size=n+1
 same:∀ i:Nat,i<n→ops'[i]? = ops[i]?
 here:ops[n]? = some o
 guard:o.guard=none
 blank:∃ o',ops'[n]? = some o'∧o'.dst=none∧o'.guard=none∧o'.after=o.after∧o.dst=none
 waits:∀ i:Nat,i<n→∃ e∈o.after,Region.binds md e=true∧e.on=i
 low:∀(j:Nat) (oj:Oper),ops[j]? = some oj→∀ e∈oj.after,e.on<j
variable {n:Nat} {o:Oper}
theorem jW.get (L:jW md ops ops' n o) (i:Nat):(ops'[i]?).map Oper.after=(ops[i]?).map Oper.after∧(ops'[i]?).bind Oper.dst=(ops[i]?).bind Oper.dst:=by
 rcases Nat.lt_trichotomy i n with h|h|h
 ·rw[L.same i h];exact⟨rfl,rfl⟩
 ·subst h
  obtain⟨o',h1,h2,_,h4,h5⟩:=L.blank;rw[h1,L.here];simp[h2,h4,h5]
 ·rw[Array.getElem?_eq_none (by have:=L.size;have:=L.size';omega),Array.getElem?_eq_none (by have:=L.size;have:=L.size';omega)]
  exact⟨rfl,rfl⟩
theorem jW.ready (L:jW md ops ops' n o) (listed:Array Bool):Region.ready md ops' listed=Region.ready md ops listed:=by
 unfold Region.ready;rw[L.size,L.size'];refine List.filter_congr fun i _=>?_
 have:=(L.get i).1;cases h1:ops[i]?<;>cases h2:ops'[i]?<;>rw[h1,h2] at this<;>simp at this ⊢
 rw[this]
theorem jW.yielded (L:jW md ops ops' n o):Go.yielded ops'=Go.yielded ops:=by
 funext tmps j
 unfold Go.yielded;rw[(L.get j).2]
theorem jW.some_ready (L:jW md ops ops' n o) (listed:Array Bool) (hs:listed.size=n+1):∀ i,i≤n→listed.getD i true=false→Region.ready md ops listed≠[]:=by
 intro i
 induction i using Nat.strongRecOn with
 | _ i ih =>
  intro hi hun h0;obtain⟨oi,hoi⟩:∃ oi,ops[i]? = some oi:=⟨_,Array.getElem?_eq_getElem (by have:=L.size;omega)⟩
  by_cases hall:∀ e∈oi.after,Region.binds md e=true→listed.getD e.on false=true
  ·have:i∈Region.ready md ops listed:=mem_ready.2 ⟨hun,oi,hoi,hall⟩
   rw[h0] at this;cases this
  ·have:∃ e∈oi.after,listed.getD e.on false≠true:=Classical.byContradiction fun hn=>hall fun e he _=>Classical.byContradiction fun h=>hn ⟨e,he,h⟩
   obtain⟨e,he,hne⟩:=this;have hlt:=L.low i oi hoi e he;have hin:e.on<listed.size:=by omega
   refine ih e.on hlt b_53 ?_ h0;simp only [Bool.not_eq_true] at hne;rw[Array.getD_eq_getD_getElem?,Array.getElem?_eq_getElem hin] at hne ⊢;simpa using hne
theorem jW.none_ready (L:jW md ops ops' n o) (listed:Array Bool) (hs:listed.size=n+1) (hn:n∈Region.ready md ops listed):Region.ready md ops (listed.setIfInBounds n true)=[]:=by
 rw[List.eq_nil_iff_forall_not_mem];intro i hi;obtain⟨hun,oi,hoi,_⟩:=mem_ready.1 hi;have hlt:i<ops.size:=(Array.getElem?_eq_some_iff.1 hoi).1;have:=L.size;by_cases h:i=n
 ·subst h
  rw[Array.getD_eq_getD_getElem?,Array.getElem?_setIfInBounds_self_of_lt b_53] at hun;cases hun
 ·rw[getD_set_ne true (fun e=>h e.symm)] at hun
  obtain⟨_,on,hon,hall⟩:=mem_ready.1 hn;have:on=o:=Option.some.inj (hon.symm.trans L.here);subst this;obtain⟨e,he,hb,hei⟩:=L.waits i b_53;have h2:=hall e he hb;rw[hei,Array.getD_eq_getD_getElem?,Array.getElem?_eq_getElem b_53] at h2;rw[Array.getD_eq_getD_getElem?,Array.getElem?_eq_getElem b_53] at hun;simp at h2 hun;rw[h2] at hun;cases hun
theorem aMb (L:jW md ops ops' n o) {Q:Act→Prop} {Q':Exit→Act→World→Prop} (hQ:∀ a w,C w→Q a→o.wp P a w (Q' .normal) Q') (fuel:Nat) (listed:Array Bool) (a:Act) (w:World) (hC:C w) (hs:listed.size=n+1) (hun:listed.getD n true=false)
  (ih:∀(listed:Array Bool) (a:Act) (w:World),C w→listed.size=n+1→listed.getD n true=false→wpAnyQ P md ops' C Q fuel listed a→wpAny P md ops Q' fuel listed a w)
  (h:wpAnyQ P md ops' C Q (fuel+1) listed a):wpAny P md ops Q' (fuel+1) listed a w:=by
 refine⟨fun h0=>absurd h0 (L.some_ready listed hs n (Nat.le_refl _) hun),fun i hi=>?_⟩;have hi':i∈Region.ready md ops' listed:=by rw[L.ready];exact hi
 have hq:=h.2 i hi';obtain⟨_,oi,hoi,_⟩:=mem_ready.1 hi;have hlt:i<n+1:=by rw[← L.size];exact(Array.getElem?_eq_some_iff.1 hoi).1
 by_cases hin:i=n
 ·subst hin
  obtain⟨o',h1,h2,h3,_,_⟩:=L.blank;have hnil:=L.none_ready listed hs hi
  have hQa:Q a:=by
   unfold qOp at hq;rw[h1] at hq;have hw:Region.wanted o' (yielded ops' a.tmps)=true:=by simp[Region.wanted,h3]
   simp only [hw,if_true] at hq;obtain⟨v,_,hk⟩:=hq;rw[h2] at hk;have hk2:wpAnyQ P md ops' C Q fuel (listed.setIfInBounds i true) a:=hk
   cases fuel with
   | zero=>exact hk2.2
   | succ fuel=>exact hk2.1 (by rw[L.ready];exact hnil)
  unfold wpOp;rw[L.here];have hw:Region.wanted o (yielded ops a.tmps)=true:=by simp[Region.wanted,L.guard]
  simp only [hw,if_true];refine .inl (Oper.wp_mono (fun a' w' hq'=>?_) (hQ a w hC hQa))
  cases fuel with
  | zero=>exact⟨hnil,hq'⟩
  | succ fuel=>exact⟨fun _=>hq',fun j hj=>by rw[hnil] at hj;cases hj⟩
 ·have hq2:qOp P ops C i (wpAnyQ P md ops' C Q fuel (listed.setIfInBounds i true)) a:=by
   unfold qOp at hq ⊢;rw[L.same i b_53,L.yielded] at hq;exact hq
  refine wpOp_of_qOp hC (fun a' w' hC' hk=>?_) hq2;exact ih _ a' w' hC' (by simpa using hs) (by rw[getD_set_ne true (fun e=>hin e)];exact hun) hk
theorem aFh (L:jW md ops ops' n o) {Q:Act→Prop} {Q':Exit→Act→World→Prop} (hQ:∀ a w,C w→Q a→o.wp P a w (Q' .normal) Q'):∀(fuel:Nat) (listed:Array Bool) (a:Act) (w:World),C w→listed.size=n+1→listed.getD n true=false →
  wpAnyQ P md ops' C Q fuel listed a→wpAny P md ops Q' fuel listed a w
 | 0,listed,_,_,_,hs,hun,h=>absurd (by rw[← L.ready];exact h.1) (L.some_ready listed hs n (Nat.le_refl _) hun)
 | fuel+1,listed,a,w,hC,hs,hun,h=>aMb L hQ fuel listed a w hC hs hun (aFh L hQ fuel) h
end
def dG:List Oper→List Oper
 | []=>[]
 | [o]=>[{ o with op:=.move (.const (.bool true)) }]
 | x::y::r=>x::dG (y::r)
def aVm (l:List Oper):Bool:=match l.getLast? with
 | none=>false
 | some o=>o.guard.isNone && o.dst.isNone && (List.range (l.length-1)).all (fun i=>o.after.any fun e=>Region.binds .any e && e.on == i) && (List.range l.length).all fun j=>match l[j]? with
  | none=>true
  | some oj=>oj.after.all fun e=>decide (e.on<j)
theorem iP:∀ l:List Oper,(dG l).length=l.length
 | []=>rfl
 | [_]=>rfl
 | x::y::r=>by simp[dG,iP (y::r)]
theorem pN:∀(l:List Oper) (i:Nat),i+1<l.length→(dG l)[i]? = l[i]?
 | [],i,h=>by simp at h
 | [_],i,h=>by simp at h
 | x::y::r,0,_=>rfl
 | x::y::r,i+1,h=>by
  simp only [dG,List.getElem?_cons_succ];exact pN (y::r) i b_49
theorem nS:∀(l:List Oper) (o:Oper),l.getLast? = some o→(dG l)[l.length-1]? = some { o with op:=.move (.const (.bool true)) }
 | [],_,h=>by simp at h
 | [x],o,h=>by simp at h;subst h;rfl
 | x::y::r,o,h=>by
  have:=nS (y::r) o b_49;simp only [dG,List.length_cons] at this ⊢;simpa using this
theorem aMc (l:List Oper) (o:Oper) (ho:l.getLast? = some o) (h:aVm l=true):jW .any l.toArray (dG l).toArray (l.length-1) o:=by
 have hpos:0<l.length:=by cases l<;>simp at ho ⊢
 unfold aVm at h;rw[ho] at h;simp only [Bool.and_eq_true,List.all_eq_true,Option.isNone_iff_eq_none] at h;obtain⟨⟨⟨hg,hd⟩,hw⟩,hl⟩:=h;refine⟨by simp;omega,by simp[iP];omega,fun i hi=>?_,?_,hg,⟨{ o with op:=.move (.const (.bool true)) },by simpa using nS l o ho,hd,hg,rfl,hd⟩,fun i hi=>?_,fun j oj hj e he=>?_⟩
 ·simpa using pN l i b_53
 ·rw[List.getLast?_eq_getElem?] at ho
  simpa using ho
 ·have:=hw i (List.mem_range.2 hi)
  obtain⟨e,he,hb⟩:=Array.any_eq_true'.1 this;simp only [Bool.and_eq_true,beq_iff_eq] at hb;exact⟨e,he,hb.1,hb.2⟩
 ·have hj':l[j]? = some oj:=by simpa using hj
  have hjl:j<l.length:=(List.getElem?_eq_some_iff.1 hj').1;have:=hl j (List.mem_range.2 hjl);rw[hj'] at this;simpa using Array.all_eq_true'.1 this e he
theorem nL {P:Program} {id:Nat} {Q:Exit→Act→World→Prop} {a:Act} {w:World} {l:List Oper} (w0:World) (o:Oper) (ho:l.getLast? = some o) (hm:P.follows .mixedOrders=true) (hL:aVm l=true) (hB:Region.lexB .any (dG l).toArray=true) (hg:aA w0 w)
  (h:wpQuiet P (dG l).toArray (fun W'=>∃ i:Gr w0,W'=i.W) (fun a'=>∀ W',(∃ i:Gr w0,W'=i.W)→o.wp P a' W' (Q .normal) Q) (dG l) a):(Code.region id l.toArray true).wp P Q a w:=by
 have L:=aMc l o ho hL;have hpos:0<l.length:=by cases l<;>simp at ho ⊢
 simp only [Region.lexB,Bool.and_eq_true] at hB;refine wp_region_any hm ?_;have hq:=wpAnyQ_lex (P:=P) (C:=fun W'=>∃ i:Gr w0,W'=i.W) (md:=.any) hB.1 (dG l) 0 (Array.replicate (dG l).toArray.size false) a b_54 (by simpa using hB.2) h;have hsz:(dG l).length=l.toArray.size:=by simp[iP]
 have hsz2:(dG l).toArray.size=l.toArray.size:=by simp[iP]
 rw[hsz,hsz2] at hq;refine aFh L (fun a' w' hC hq'=>hq' w' hC) _ _ _ _ ⟨⟨w.drew,hg.drew⟩,rfl⟩ b_50 ?_ hq;rw[Array.getD_eq_getD_getElem?,Array.getElem?_eq_getElem b_50];simp
theorem c_20 {p:Prop} (h:p:=by
 have hcyz:¬ (l.length:Int)<((m+1:Nat):Int):=by omega
 obtain⟨p,hfp⟩:=HF.out y HYM.out hp0;obtain⟨k,hk,ek,e⟩:=gK hfp
 have hdn:dJ l l.length ⟨yi,yp,yl,yt,ym,yk⟩=(dJ l (l.length-(m+1)) p).map (· + (m+1)):=by
  rw[HDP.out,show l.length-m=(l.length-(m+1))+1 by omega,aDp _ _ _ p hp0 hfp,Option.map_map]
  congr 1
  funext d
  simp;omega
 have HDN:=uZ hdn;have HPM:=uZ (show p∈l by rw[← e];exact List.getElem_mem hk);have kI:=fun W (hW:aA w W)=>aJo l y.parent rv (.slice (some ⟨b,off,none⟩) l.length c) W (HV.out.mono hW)
 rw[ek] at kI;have hq:=HCELL.out k hk;rw[e] at hq;have HQ:=uZ hq;have KI:=uZ kI;have hkz:=h_208;have h0k:=h_216;have HUU:=uZ HU.out;clear kI hq e ek hfp hdn hp0 HDP HU;generalize hzp:y.parent=zp at u1 hpp KI;clear hzp u0 u2 u3 u4;obtain⟨pi,pp,pl,pt,pm,pk⟩:=p;dsimp only at HQ;obtain⟨_,-,hq⟩:=HQ.out;obtain⟨d0,d1,d2,d3,d4,-⟩:=hq wr GW.out;have f0:=Gr.cell d0;have f1:=Gr.cell d1;have f2:=Gr.cell d2;have f3:=Gr.cell d3;have f4:=Gr.cell d4;have r0:=Gr.cell t0;have r1:=Gr.cell t1;have v1:=Gr.cell u1;clear hq HQ d0 d1 d2 d3 d4;go_wp2;refine nL wr _ rfl (by kernel_rfl) (by kernel_rfl) (by kernel_rfl) (uX _) ?_;simp only [dG]
 repeat (first|go_big_quiet_step ((go_at_call 63;exact Gr.calls _ (KI.out _ (GW.out.trans (Gr.g _)))))|quiet_step ((go_at_call 63;exact Gr.calls _ (KI.out _ (GW.out.trans (Gr.g _))))))
 refine wpQuiet_nil ?_;intro _ hw';obtain⟨wi,rfl⟩:=hw';have HU1:=HUU.out.mono wi.g;have HG1:=uZ wi.g;have hlt1:=HUU.out.lt;have hlt2:=wi.g.size;obtain⟨s0,s1,s2,s3,s4⟩:=HU1.cells;have z0:=HU1.free 0;have z1:=HU1.free 1;have z2:=HU1.free 2;have z3:=HU1.free 3;have z4:=HU1.free 4;clear HU1 u1 t0 t1 f0 f1 f2 f3 f4 r0 r1 v1;go_simp;go_wp2;go_roundg (l.length+1-(m+1))
 case measure=>omega
 case rel =>
  refine⟨m+1,wi.W.heap.size,⟨pi,pp,pl,pt,pm,pk⟩,by go_num,rfl,by omega,by omega,by omega,(show Aside _ from HPM.out),?_,?_,(show Aside _ from HDN.out)⟩
  ·show fV _ _ _
   with_reducible refine qW _ _ ?_ ⟨pi,pp,pl,pt,pm,pk⟩
   simp
  ·show aA _ _
   with_reducible refine uU ?_ _
   repeat (with_reducible refine yZ ?_ (by simpa using hC) _)
   exact BW.out.trans HG1.out
):p:=h
theorem c_96 {p:Prop} (h:p:=by
 obtain⟨j,hj,rfl⟩:=List.mem_iff_getElem.1 hy;have:=hP j hj;unfold aX at this;rw[if_neg hne] at this;obtain⟨p,hp,_⟩:=this;exact⟨p,hp⟩
):p:=h
theorem h_53 {p:Prop} (h:p:=by
 exact(show RowKit.Hid (¬ PA) from fun h=>by
  obtain⟨d,hd,hle⟩:=HD.out.1 h;rw[HDP.out,show l.length-m=0 by omega,nG _ _ hp0] at hd
  cases hd)
):p:=h
theorem h_101 {p:Prop} (h:p:=by
 exact(show RowKit.Hid (¬ PA) from fun h=>by
  obtain⟨d,hd,hle⟩:=HD.out.1 h;rw[HDD.out] at hd;cases hd
  omega)
):p:=h
theorem h_121 {p:Prop} (h:p:=by
 exact(show RowKit.Hid (∀ y∈l,y.parent≠0→∃ p,aE l y.parent=some p) from fun y hy hne=>by
  exact c_96)
):p:=h
theorem h_234 {p:Prop} (h:p:=by
 exact yQ BW.out 1 _ rfl
):p:=h
def cF (l:List Br):Prop:=l.length≤1000000∧∀ i (h:i<l.length),l[i].kids.length≤1000000
theorem aYa (l:List Br) (i:Nat) (hi:i<l.length) (rv bv:Value) (w:World) (hv:bQ w bv l) (hf:cF l) :
  Calls Tryz.prog 196 #[.agg #[rv,bv],.int .i64 i] w (bM (sortI l[i].kids=bH l l[i].id) w):=by
 have HV:=uZ hv;obtain⟨A,c,rfl,hlc,hc,hr⟩:=hv.open_;unfold maxLen at hc;obtain⟨b,off,rfl,hbk,hcell⟩:=hr b_53;obtain⟨kv,hkv,hcl⟩:=hcell i hi;obtain⟨c0,c1,c2,c3,c4,c5⟩:=hcl w (uX w);have kJ:=fun W (hW:aA w W)=>aUi l l[i].id l[i].kids rv (.slice (some ⟨b,off,none⟩) l.length c) kv W (HV.out.mono hW) (hkv.mono hW) hf.1 (hf.2 i hi)
 have hiz:=h_207;have h0z:=h_215;obtain⟨Az,cz,rfl,-,-,-⟩:=hkv.open_;by_cases hS:sortI l[i].kids=bH l l[i].id
 ·have HS:=uZ hS
  rw[decide_eq_true hS] at kJ;clear hS hcell hcl hr hv hkv hf;generalize (sortI l[i].kids=bH l l[i].id)=PA at HS ⊢;generalize l[i]=y at c0 c1 c2 c3 c4 c5 kJ;obtain⟨yi,yp,yl,yt,ym,yk⟩:=y;dsimp only at c0 c1 c2 c3 c4 c5 kJ;have KJ:=uZ kJ;clear kJ;go_enter Tryz.func196,Tryz.ntmps196;go_wp2_with fail;refine(KJ.out _ (((uX w).alloc _).alloc _)).mono ?_;rintro e w1 ⟨rfl,g1⟩;dsimp only;go_wp2;go_ret;exact bM.yes HS.out ((((uX w).alloc _).alloc _).trans g1)
 ·have HS:=uZ hS
  rw[decide_eq_false hS] at kJ;clear hS hcell hcl hr hv hkv hf;generalize (sortI l[i].kids=bH l l[i].id)=PA at HS ⊢;generalize l[i]=y at c0 c1 c2 c3 c4 c5 kJ;obtain⟨yi,yp,yl,yt,ym,yk⟩:=y;dsimp only at c0 c1 c2 c3 c4 c5 kJ;have KJ:=uZ kJ;clear kJ;go_enter Tryz.func196,Tryz.ntmps196;go_wp2_with fail;refine(KJ.out _ (((uX w).alloc _).alloc _)).mono ?_;rintro e w1 ⟨rfl,g1⟩;dsimp only;go_wp2;go_ret;exact bM.no 10 b_52 HS.out ((((uX w).alloc _).alloc _).trans g1)
def fV (W:World) (C:Nat) (y:Br):Prop:=W.heap[C]? = some (.cells #[.int .i64 y.id,.int .i64 y.parent,.int .i64 y.level,.string y.title,.string y.mark] 64)
theorem fV.cells {W:World} {C:Nat} {y:Br} (h:fV W C y):W.cell? ⟨C,0,none⟩=some (.int .i64 y.id)∧W.cell? ⟨C,1,none⟩=some (.int .i64 y.parent)∧W.cell? ⟨C,2,none⟩=some (.int .i64 y.level)∧W.cell? ⟨C,3,none⟩=some (.string y.title)∧W.cell? ⟨C,4,none⟩=some (.string y.mark):=by
 refine⟨?_,?_,?_,?_,?_⟩<;>rw[cell_of_row _ _ _ _ _ _ h]<;>simp
theorem fV.free {W:World} {C:Nat} {y:Br} (h:fV W C y) (j:Nat):W.frozen? ⟨C,j,none⟩=false:=by
 unfold fV at h;simp[World.frozen?,h]
theorem fV.mono {W W':World} {C:Nat} {y:Br} (h:fV W C y) (hg:aA W W'):fV W' C y:=by
 have hlt:C<W.heap.size:=by
  rcases Nat.lt_or_ge C W.heap.size with hlt|hge
  ·exact hlt
  ·unfold fV at h;rw[Array.getElem?_eq_none hge] at h;cases h
 exact(hg.block C hlt).trans h
theorem vK (w:World) (o:Obj) (y:Br):fV ((w.alloc o).alloc (.cells #[.int .i64 y.id,.int .i64 y.parent,.int .i64 y.level,.string y.title,.string y.mark] 64)) (w.heap.size+1) y:=by
 have:=heap_alloc_new (w.alloc o) (.cells #[.int .i64 y.id,.int .i64 y.parent,.int .i64 y.level,.string y.title,.string y.mark] 64);unfold fV;simpa using this
theorem aDg (w:World) (y:Br):fV (w.alloc (.cells #[.int .i64 y.id,.int .i64 y.parent,.int .i64 y.level,.string y.title,.string y.mark] 64)) w.heap.size y:=heap_alloc_new w _
theorem qW (w:World) (H:Nat) (h:w.heap.size=H) (y:Br):fV (w.alloc (.cells #[.int .i64 y.id,.int .i64 y.parent,.int .i64 y.level,.string y.title,.string y.mark] 64)) H y:=by
 subst h;exact aDg w y
theorem fV.lt {W:World} {C:Nat} {y:Br} (h:fV W C y):C<W.heap.size:=by
 rcases Nat.lt_or_ge C W.heap.size with hlt|hge
 ·exact hlt
 ·unfold fV at h;rw[Array.getElem?_eq_none hge] at h;cases h
theorem aAo (l:List Br) (n:Nat) (b:Br) (h:b.parent=0):dJ l n b=some 1:=by cases n<;>simp[dJ,h]
theorem aDp (l:List Br) (n:Nat) (b p:Br) (h:b.parent≠0) (hp:aE l b.parent=some p):dJ l (n+1) b=(dJ l n p).map (· + 1):=by simp[dJ,h,hp]
theorem nG (l:List Br) (b:Br) (h:b.parent≠0):dJ l 0 b=none:=by simp[dJ,h]
theorem aYc (l:List Br) (i:Nat) (hi:i<l.length) (rv bv:Value) (w:World) (hv:bQ w bv l) (hlen:l.length≤1000000) (hP:∀ i (h:i<l.length),aX l l[i]) :
  Calls Tryz.prog 200 #[.agg #[rv,bv],.int .i64 i] w (bM (eD l l[i]) w):=by
 have HV:=uZ hv;obtain⟨A,c,rfl,hlc,hc,hr⟩:=hv.open_;unfold maxLen at hc;obtain⟨b,off,rfl,hbk,hcell⟩:=hr b_53;have HCELL:=uZ hcell;obtain⟨kv,-,hcl⟩:=hcell i hi;obtain⟨c0,c1,c2,c3,c4,-⟩:=hcl w (uX w);have hiz:=h_207;have h0z:=h_215;have HM:=uZ (List.getElem_mem hi);have HD:RowKit.Hid (eD l l[i]↔∃ d,dJ l l.length l[i]=some d∧d≤12):=Iff.rfl;generalize eD l l[i]=PA at HD ⊢;generalize hy:l[i]=y at c0 c1 c2 c3 c4 HD HM;clear hy;obtain⟨yi,yp,yl,yt,ym,yk⟩:=y;dsimp only at c0 c1 c2 c3 c4;have HF:=h_121;clear hcell hcl hr hv hP;go_enter Tryz.func200,Tryz.ntmps200;go_wp2;go_loopg [5,6] (l.length+1) (fun gg s5 s6 wr=>∃(m C:Nat) (y:Br),s5=.int .i64 (m+1:Nat)∧s6=.pointer (some ⟨C,0,none⟩)∧m≤l.length∧l.length+1-m≤gg∧w.heap.size+1≤C∧Aside (y∈l)∧Aside (fV wr C y)∧Aside (aA (w.alloc (.cells [rv,.slice (some ⟨b,off,none⟩) l.length c].toArray 43)) wr)∧Aside (dJ l l.length ⟨yi,yp,yl,yt,ym,yk⟩=(dJ l (l.length-m) y).map (· + m)))
 case atStart=>exact⟨0,w.heap.size+1,⟨yi,yp,yl,yt,ym,yk⟩,rfl,rfl,by omega,by omega,by omega,(show Aside _ from HM.out),(show Aside _ from vK w _ ⟨yi,yp,yl,yt,ym,yk⟩),(show Aside _ from(uX _).alloc _),(show Aside _ from(show _=_ by simp))⟩
 case round =>
  obtain⟨m,C,y,rfl,rfl,hm,hgk,hC,HYM,HU,BW,HDP⟩:=hrel;have GW:Aside (aA w wr):=((uX w).alloc _).trans BW.out;have t1:=h_234;have t0:=yQ BW.out 0 _ rfl;obtain⟨u0,u1,u2,u3,u4⟩:=HU.out.cells;by_cases hp0:y.parent=0
  ·have hdd:dJ l l.length ⟨yi,yp,yl,yt,ym,yk⟩=some (1+m):=by rw[HDP.out,aAo _ _ _ hp0];rfl
   have hpp:(y.parent != 0)=false:=by simpa using hp0
   have HDD:=uZ hdd;generalize y.parent=zp at u1 hpp;clear hdd hp0 u0 u2 u3 u4;by_cases h12:12<m+1
   ·have h12z:(12:Int)<((m+1:Nat):Int):=by omega
    have Hn:=h_101;go_wp2;go_ret;exact bM.no 15 b_52 Hn.out GW.out
   ·have h12z:¬ (12:Int)<((m+1:Nat):Int):=by omega
    have Hy:RowKit.Hid PA:=HD.out.2 ⟨1+m,HDD.out,by omega⟩;go_wp2;go_ret;exact bM.yes Hy.out GW.out
  have hpp:(y.parent != 0)=true:=by simpa using hp0
  by_cases hcy:l.length<m+1
  ·have hcyz:(l.length:Int)<((m+1:Nat):Int):=by omega
   have Hn:=h_53;generalize y.parent=zp at u1 hpp;clear hp0 u0 u2 u3 u4;go_wp2;go_ret;exact bM.no 17 b_52 Hn.out GW.out
  exact c_20
def eG (P:Prop) (w:World) (e:Ending) (w':World):Prop:=∃ i n:Int,e=.returned (.tuple #[.int .i64 i,.int .i64 n])∧(n=0↔P)∧aA w w'
theorem eG.no {P:Prop} {w w':World} (i n:Int) (hn:n≠0) (h:¬ P) (hg:aA w w'):eG P w (.returned (.tuple #[.int .i64 i,.int .i64 n])) w':=⟨i,n,rfl,⟨fun e=>absurd e hn,fun e=>absurd e h⟩,hg⟩
theorem eG.yes {P:Prop} {w w':World} (i:Int) (h:P) (hg:aA w w'):eG P w (.returned (.tuple #[.int .i64 i,.int .i64 0])) w':=⟨i,0,rfl,⟨fun _=>h,fun _=>rfl⟩,hg⟩
theorem c_60 {p:Prop} (h:p:=by
 have Hy:=uZ (HY.out (HNN.out.1 rfl));go_wp2;go_roundg (l.length-(k+1))
 case measure=>omega
 case rel=>exact⟨k+1,by omega,by omega,by go_num,(show Aside _ from BW.out.trans HG1.out),(show Aside _ from Hy.out)⟩
):p:=h
theorem c_119 {p:Prop} (h:p:=by
 by_cases e:i=k
 ·subst e;exact h
 ·exact M.out i hi b_53
):p:=h
theorem h_11 {p:Prop} (h:p:=by
 exact(show RowKit.Hid (aM ⟨rs,l⟩↔(∀ i (h:i<l.length),cB l i h)∧(∀ i (h:i<l.length),aX l l[i])∧(∀ i (h:i<l.length),sortI l[i].kids=bH l l[i].id)∧sortI rs=bH l 0∧∀ i (h:i<l.length),eD l l[i]) from⟨fun h=>h.2,fun h=>⟨by show l.length≤256;omega,h⟩⟩)
):p:=h
theorem h_13 {p:Prop} (h:p:=by
 exact uZ (show aA w ((w.alloc (.cells [.slice Ar rs.length cr,.slice A l.length c].toArray 43)).alloc (.cells [.func (.func 198) #[] #[],.func (.func 199) #[] #[],.func (.func 196) #[] #[],.func (.func 200) #[] #[]].toArray 190)) from((uX w).alloc _).alloc _)
):p:=h
theorem h_16 {p:Prop} (h:p:=by
 exact uZ (uX ((w.alloc (.cells [.slice Ar rs.length cr,.slice A l.length c].toArray 43)).alloc (.cells [.func (.func 198) #[] #[],.func (.func 199) #[] #[],.func (.func 196) #[] #[],.func (.func 200) #[] #[]].toArray 190)))
):p:=h
theorem h_47 {p:Prop} (h:p:=by
 exact(show RowKit.Hid ((sortI l[k].kids=bH l l[k].id)→∀ i (h:i<l.length),i<k+1→sortI l[i].kids=bH l l[i].id) from fun h i hi h2=>by
  exact c_119)
):p:=h
theorem h_83 {p:Prop} (h:p:=by
 exact uZ (fun W (hW:aA w W)=>aUi l 0 rs rv (.slice A l.length c) rv W (HV.out.mono hW) (HRR.out.mono hW) HF.out.1 hrl)
):p:=h
theorem h_96 {p:Prop} (h:p:=by
 exact(show RowKit.Hid ((cB l k hlt)→∀ i (h:i<l.length),i<k+1→cB l i h) from fun h i hi h2=>by
  exact c_119)
):p:=h
theorem h_97 {p:Prop} (h:p:=by
 exact(show RowKit.Hid ((aX l l[k])→∀ i (h:i<l.length),i<k+1→aX l l[i]) from fun h i hi h2=>by
  exact c_119)
):p:=h
theorem h_98 {p:Prop} (h:p:=by
 exact(show RowKit.Hid ((eD l l[k])→∀ i (h:i<l.length),i<k+1→eD l l[i]) from fun h i hi h2=>by
  exact c_119)
):p:=h
theorem h_122 {p:Prop} (h:p:=by
 exact(show RowKit.Hid (¬ (sortI l[k].kids=bH l l[k].id)→¬ PR) from fun h h2=>h ((HD.out.1 h2).2.2.1 k hlt))
):p:=h
theorem h_169 {p:Prop} (h:p:=by
 exact(show RowKit.Hid (¬ PR) from HN.out (fun h=>Hz.out (HNN.out.2 h)))
):p:=h
theorem h_193 {p:Prop} (h:p:=by
 exact(show ¬ (256:Int)<(l.length:Int) from by omega)
):p:=h
theorem h_213 {p:Prop} (h:p:=by
 exact uZ (fun i h=>M.out i h b_53)
):p:=h
theorem aSx (rs:List Int) (l:List Br) (rv bv:Value) (w:World) (hE:Env w) (hr:SlI w rv rs) (hv:bQ w bv l) (hf:cF l) (hrl:rs.length≤1000000) :
  Calls Tryz.prog 143 #[.agg #[rv,bv]] w (eG (aM ⟨rs,l⟩) w):=by
 have HV:=uZ hv;have HE:=uZ hE;have HRR:=uZ hr;have HF:=uZ hf;obtain⟨A,c,rfl,hlc,hc,-⟩:=hv.open_;unfold maxLen at hc;clear hv hE;obtain⟨Ar,cr,hrv,-,-,-⟩:=hr.open_;clear hr hf;by_cases h256:256<l.length
 ·have hb:(256:Int)<(l.length:Int):=by omega
  have Hn:RowKit.Hid (¬ aM ⟨rs,l⟩):=fun h=>by have:=h.1;dsimp only at this;omega
  go_enter Tryz.func143,Tryz.ntmps143;go_wp2;go_ret2;exact eG.no _ 8 b_52 Hn.out ((uX w).alloc _)
 have hb:=h_193;have HD:=h_11;generalize aM ⟨rs,l⟩=PR at HD ⊢;have K1:=uZ (fun i hi W (hW:aA w W)=>aSy l i hi rv (.slice A l.length c) W (HE.out.mono hW) (HV.out.mono hW));have K2:=uZ (fun i hi W (hW:aA w W)=>aJm l i hi rv (.slice A l.length c) W (HV.out.mono hW));have K3:=uZ (fun i hi W (hW:aA w W)=>aYa l i hi rv (.slice A l.length c) W (HV.out.mono hW) HF.out);have KJ:=h_83;have KD:=uZ (fun(hP:∀ i (h:i<l.length),aX l l[i]) i hi W (hW:aA w W)=>aYc l i hi rv (.slice A l.length c) W (HV.out.mono hW) HF.out.1 hP);clear HV HE HRR HF;subst hrv;go_enter Tryz.func143,Tryz.ntmps143;go_wp2;refine wp_loop_rounds 5 ?_;rw[rounds_succ];go_wp2;have HG0:=h_13;have HBA:=h_16;go_loopg [33] l.length (fun gg s33 wr=>∃ k:Nat,k≤l.length∧l.length-k≤gg∧s33=.int .i64 k∧Aside (aA ((w.alloc (.cells [.slice Ar rs.length cr,.slice A l.length c].toArray 43)).alloc (.cells [.func (.func 198) #[] #[],.func (.func 199) #[] #[],.func (.func 196) #[] #[],.func (.func 200) #[] #[]].toArray 190)) wr)∧Aside (∀ i (h:i<l.length),i<k→cB l i h))
 case atStart=>exact⟨0,by omega,by omega,rfl,(show Aside _ from uX _),(show Aside _ from fun i h h2=>by omega)⟩
 case round =>
  obtain⟨k,hk,hgk,rfl,BW,M⟩:=hrel;have b0:=bV (HBA.out.trans BW.out) 0 _ rfl;have b1:=bV (HBA.out.trans BW.out) 1 _ rfl;by_cases hlt:k<l.length
  ·have hltz:(k:Int)<(l.length:Int):=by omega
   have HN:RowKit.Hid (¬ (cB l k hlt)→¬ PR):=fun h h2=>h ((HD.out.1 h2).1 k hlt)
   have HY:=h_96;have KK:=uZ (K1.out k hlt _ (HG0.out.trans (HBA.out.trans BW.out)));generalize (cB l k hlt)=PK at HN HY KK;go_wp2_with fail;refine KK.out.mono ?_;rintro e w1 ⟨n,rfl,hnn,g1⟩;have HNN:=uZ hnn;have HG1:=uZ g1;clear hnn g1;dsimp only;by_cases hz:n=0
   ·subst hz
    exact c_60
   ·have hz':(n != 0)=true:=by simpa using hz
    have Hz:=uZ hz;have Hn:=h_169;clear hz;go_wp2;go_ret2;exact eG.no _ n Hz.out Hn.out ((HG0.out.trans (HBA.out.trans BW.out)).trans HG1.out)
  have hltz:=h_198;have HALL1:=h_213;have HB1:=uZ (HBA.out.trans BW.out);have fn1:=cZ HB1.out 1 _ rfl;obtain⟨wr1,rfl⟩:∃ wr1:World,wr1=wr:=⟨_,rfl⟩
  clear M BW;go_wp2;rw[rounds_succ];go_wp2;go_loopg [33] l.length (fun gg s33 wr=>∃ k:Nat,k≤l.length∧l.length-k≤gg∧s33=.int .i64 k∧Aside (aA wr1 wr)∧Aside (∀ i (h:i<l.length),i<k→aX l l[i]))
  case atStart=>exact⟨0,by omega,by omega,rfl,(show Aside _ from uX _),(show Aside _ from fun i h h2=>by omega)⟩
  case round =>
   obtain⟨k,hk,hgk,rfl,BW,M⟩:=hrel;have b0:=bV (HB1.out.trans BW.out) 0 _ rfl;have b1:=bV (HB1.out.trans BW.out) 1 _ rfl;by_cases hlt:k<l.length
   ·have hltz:(k:Int)<(l.length:Int):=by omega
    have HN:RowKit.Hid (¬ (aX l l[k])→¬ PR):=fun h h2=>h ((HD.out.1 h2).2.1 k hlt)
    have HY:=h_97;have KK:=uZ (K2.out k hlt _ (HG0.out.trans (HB1.out.trans BW.out)));generalize (aX l l[k])=PK at HN HY KK;go_wp2_with fail;refine KK.out.mono ?_;rintro e w1 ⟨n,rfl,hnn,g1⟩;have HNN:=uZ hnn;have HG1:=uZ g1;clear hnn g1;dsimp only;by_cases hz:n=0
    ·subst hz
     exact c_60
    ·have hz':(n != 0)=true:=by simpa using hz
     have Hz:=uZ hz;have Hn:=h_169;clear hz;go_wp2;go_ret2;exact eG.no _ n Hz.out Hn.out ((HG0.out.trans (HB1.out.trans BW.out)).trans HG1.out)
   have hltz:=h_198;have HALL2:=h_213;have HB2:=uZ (HB1.out.trans BW.out);have fn2:=cZ HB2.out 2 _ rfl;obtain⟨wr2,rfl⟩:∃ wr2:World,wr2=wr:=⟨_,rfl⟩
   clear M BW;go_wp2;rw[rounds_succ];go_wp2;go_loopg [33] l.length (fun gg s33 wr=>∃ k:Nat,k≤l.length∧l.length-k≤gg∧s33=.int .i64 k∧Aside (aA wr2 wr)∧Aside (∀ i (h:i<l.length),i<k→sortI l[i].kids=bH l l[i].id))
   case atStart=>exact⟨0,by omega,by omega,rfl,(show Aside _ from uX _),(show Aside _ from fun i h h2=>by omega)⟩
   case round =>
    obtain⟨k,hk,hgk,rfl,BW,M⟩:=hrel;have b0:=bV (HB2.out.trans BW.out) 0 _ rfl;have b1:=bV (HB2.out.trans BW.out) 1 _ rfl;by_cases hlt:k<l.length
    ·have hltz:(k:Int)<(l.length:Int):=by omega
     have HN:=h_122;have HY:=h_47;have KK:=uZ (K3.out k hlt _ (HG0.out.trans (HB2.out.trans BW.out)));generalize (sortI l[k].kids=bH l l[k].id)=PK at HN HY KK;go_wp2_with fail;refine KK.out.mono ?_;rintro e w1 ⟨n,rfl,hnn,g1⟩;have HNN:=uZ hnn;have HG1:=uZ g1;clear hnn g1;dsimp only;by_cases hz:n=0
     ·subst hz
      exact c_60
     ·have hz':(n != 0)=true:=by simpa using hz
      have Hz:=uZ hz;have Hn:=h_169;clear hz;go_wp2;go_ret2;exact eG.no _ n Hz.out Hn.out ((HG0.out.trans (HB2.out.trans BW.out)).trans HG1.out)
    have hltz:=h_198;have HALL3:=h_213;have HB3:=uZ (HB2.out.trans BW.out);have fn3:=cZ HB3.out 3 _ rfl;obtain⟨wr3,rfl⟩:∃ wr3:World,wr3=wr:=⟨_,rfl⟩
    clear M BW;go_wp2;rw[rounds_succ];have kj:=KJ.out wr3 (HG0.out.trans HB3.out);have K4:=uZ (KD.out HALL2.out);by_cases hS:sortI rs=bH l 0
    case neg =>
     rw[decide_eq_false hS] at kj;have KJ2:=uZ kj;have Hn:RowKit.Hid (¬ PR):=fun h=>hS (HD.out.1 h).2.2.2.1
     clear kj hS;go_wp2_with fail;refine KJ2.out.mono ?_;rintro e w1 ⟨rfl,g1⟩;dsimp only;go_wp2;go_ret2;exact eG.no _ 10 b_52 Hn.out ((HG0.out.trans HB3.out).trans g1)
    rw[decide_eq_true hS] at kj;have KJ2:=uZ kj;have HSS:=uZ hS;clear kj hS;go_wp2_with fail;refine KJ2.out.mono ?_;rintro e w4 ⟨rfl,g4⟩;have HB4:=uZ (HB3.out.trans g4);have q0:=bV HB4.out 0 _ rfl;have q1:=bV HB4.out 1 _ rfl;clear g4;dsimp only;go_wp2;go_loopg [33] l.length (fun gg s33 wr=>∃ k:Nat,k≤l.length∧l.length-k≤gg∧s33=.int .i64 k∧Aside (aA w4 wr)∧Aside (∀ i (h:i<l.length),i<k→eD l l[i]))
    case atStart=>exact⟨0,by omega,by omega,rfl,(show Aside _ from uX _),(show Aside _ from fun i h h2=>by omega)⟩
    case round =>
     obtain⟨k,hk,hgk,rfl,BW,M⟩:=hrel;have b0:=bV (HB4.out.trans BW.out) 0 _ rfl;have b1:=bV (HB4.out.trans BW.out) 1 _ rfl;by_cases hlt:k<l.length
     ·have hltz:(k:Int)<(l.length:Int):=by omega
      have HN:RowKit.Hid (¬ (eD l l[k])→¬ PR):=fun h h2=>h ((HD.out.1 h2).2.2.2.2 k hlt)
      have HY:=h_98;have KK:=uZ (K4.out k hlt _ (HG0.out.trans (HB4.out.trans BW.out)));generalize (eD l l[k])=PK at HN HY KK;go_wp2_with fail;refine KK.out.mono ?_;rintro e w1 ⟨n,rfl,hnn,g1⟩;have HNN:=uZ hnn;have HG1:=uZ g1;clear hnn g1;dsimp only;by_cases hz:n=0
      ·subst hz
       exact c_60
      ·have hz':(n != 0)=true:=by simpa using hz
       have Hz:=uZ hz;have Hn:=h_169;clear hz;go_wp2;go_ret2;exact eG.no _ n Hz.out Hn.out ((HG0.out.trans (HB4.out.trans BW.out)).trans HG1.out)
     have hltz:=h_198;have HALL4:=h_213;have Hy:RowKit.Hid PR:=HD.out.2 ⟨HALL1.out,HALL2.out,HALL3.out,HSS.out,HALL4.out⟩;have HWE:=uZ (HG0.out.trans (HB4.out.trans BW.out));go_wp2;rw[rounds_succ];go_wp2;go_ret2;exact eG.yes _ Hy.out HWE.out
end Go.Proofs.YtdochkemaiokfaaGreat







