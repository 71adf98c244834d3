/- Lemmas on what the functions of the program and of the library compute: RR1, Rf1, Rf2, Rf3, Rf4, Rf5, Rf6, Rf8, PlainBd. The conditions stand at each. -/
import Derived.Test.YtdochkemaiokfaaGreatQ3
import Derived.Test.YtdochkemaiokfaaGreatQ9
import Derived.Test.YtdochkemaiokfaaGreatQ1
import Derived.Test.YtdochkemaiokfaaGreatQ8
import Derived.Test.YtdochkemaiokfaaGreatQ2
import Derived.Test.YtdochkemaiokfaaGreatQ12
import Derived.Test.YtdochkemaiokfaaGreatQ26
import Derived.Test.YtdochkemaiokfaaGreatQ27
import Derived.Test.YtdochkemaiokfaaGreatQ16
import Derived.Deep.AppendLies
import Derived.Test.YtdochkemaiokfaaGreatQ7
import Derived.BigQuiet
import Derived.Test.YtdochkemaiokfaaGreatQ29
import Derived.Test.YtdochkemaiokfaaGreatQ21
import Derived.Test.YtdochkemaiokfaaGreatQ30
import Derived.Test.YtdochkemaiokfaaGreatQ22
import Derived.Test.YtdochkemaiokfaaGreatQ17
set_option maxHeartbeats 16000000
set_option maxRecDepth 100000
set_option linter.all false
namespace Go.Proofs.YtdochkemaiokfaaGreat
open Go.RowKit
theorem c_43 {p:Prop} (h:p:=by
 go_wp2_with (at_builtin;refine aEa rfl _ _ 38 rfl w 3 i0 (.int .i64 0) 1 8 Tryz.underlying38 hi hz0 hz1 hz2 rfl b_53 _ _ _ b_55 wr OW.out BW.out wr.heap.size b_54 [.int .i64 y] b_55 rfl rfl b_47 b_53 ?_;intro v8 w8 hown8 hg8)
 have OW8:Aside _:=hown8;have BW8:Aside _:=hg8;clear hown8 hg8;go_wp2;go_roundg (l.length-(k+1))
 case measure=>omega
 case rel =>
  refine⟨k+1,by omega,by omega,by go_num,?_,BW8⟩;have:=HT.out;simp only [Bool.false_eq_true,if_false] at this;rw[this,List.flatMap_append,List.length_append];exact OW8
):p:=h
theorem dL (n lo hi:Int) (w:World):Calls Tryz.prog 79 #[.int .i64 n,.int .i64 lo,.int .i64 hi] w fun e w'=>e=.returned (.bool (aN n lo hi))∧w=w':=by
 unfold aN;cases a1:decide (lo≤n)<;>cases a2:decide (n≤hi)
 all_goals
  go_enter Tryz.func79,Tryz.ntmps79;exact c_130
theorem dI (l:List Int) (n:Int) (v:Value) (w:World) (hv:SlI w v l):Calls Tryz.prog 150 #[v,.int .i64 n] w fun e w'=>e=.returned (.bool (decide (n∈l)))∧w=w':=by
 obtain⟨A,c,rfl,hlc,hc,hr⟩:=hv.open_;unfold maxLen at hc;have HR:=uZ hr;generalize hR:decide (n∈l)=R;have HRes:=uZ hR;clear hr hv hR;go_enter Tryz.func150,Tryz.ntmps150;go_wp2
 go_loop [5] (fun i=>∃ k:Nat,k≤l.length∧i=.int .i64 k∧Aside (∀ j (hj:j<l.length),j<k→l[j]≠n)) (fun i=>l.length-(intOf i).toNat)
 case atStart=>exact⟨0,Nat.zero_le _,rfl,fun j hj h=>absurd h (Nat.not_lt_zero _)⟩
 case round =>
  obtain⟨k,hk,rfl,M⟩:=hrel;by_cases hlt:k<l.length
  ·have hltz:(k:Int)<(l.length:Int):=by omega
   have h0z:=h_216;obtain⟨b,off,rfl,hb,hcell⟩:=HR.out b_53;have c0:=hcell w (uX w) k hlt;have HY:=uZ (show l[k]∈l from List.getElem_mem hlt)
   have HN:RowKit.Hid (l[k]≠n→∀ j (hj:j<l.length),j<k+1→l[j]≠n):=fun h j hj h2=>by
    exact c_120
   clear hcell;generalize l[k]=y at c0 HY HN
   cases a1:(y == n) with
   | true =>
    go_wp2;go_ret;refine⟨?_,rfl⟩;rw[← HRes.out];have:y=n:=by simpa using a1
    rw[← this];exact aV (by simpa using HY.out)
   | false =>
    have HNN:=uZ (HN.out (by simpa using a1));clear HN;go_wp2
    go_round
    case rel=>exact⟨k+1,by omega,by go_num,(show Aside _ from HNN.out)⟩
    case measure=>simp[intOf];omega
  ·have hltz:¬ (k:Int)<(l.length:Int):=by omega
   have HM:=uZ (show n∉l from fun h=>by
    obtain⟨j,hj,e⟩:=List.mem_iff_getElem.1 h
    exact M.out j hj b_53 e)
   clear M;go_wp2;go_ret;refine⟨?_,rfl⟩;rw[← HRes.out];exact aV (by simpa using HM.out)
def aOm (l:List Int) (w:World) (e:Ending) (w':World):Prop:=∃ v,e=.returned v∧w'.ownsRow w.heap.size 3 1 v l.length (l.flatMap eE)∧aA w w'
theorem yP (l:List Int) (n:Int) (k:Nat) (hk:k<l.length):aI n (l.take (k+1))=aI n (l.take k)++(if l[k] == n then[] else[l[k]]):=by
 unfold aI;rw[List.take_succ_eq_append_getElem hk,List.filter_append]
 congr 1
 by_cases h:(l[k] == n)=true
 ·simp[h]
 ·simp[h]
theorem eZ (l:List Int) (n:Int) (v:Value) (w:World) (hv:SlI w v l) (hl:l.length≤1000000):Calls Tryz.prog 155 #[v,.int .i64 n] w (aOm (aI n l) w):=by
 obtain⟨A,c,rfl,hlc,hc,hr⟩:=hv.open_;have HR:=uZ hr;obtain⟨i0,hi,hz0,hz1,hz2⟩:=info_parts lJ;clear hv hr hc hlc;have hlen:∀ k,(aI n (l.take k)).length≤l.length:=fun k=>Nat.le_trans (List.length_filter_le _ _) b_41
 have HL:=uZ hlen;have HT0:=uZ (fun k hk=>yP l n k hk);have HFin:=uZ (show aI n (l.take l.length)=aI n l by rw[List.take_length]);clear hlen;generalize aI n l=OUT at HFin ⊢;go_enter Tryz.func155,Tryz.ntmps155;go_wp2;go_loopg [5,6] l.length (fun gg s5 s6 wr=>∃ k:Nat,k≤l.length∧l.length-k≤gg∧s6=.int .i64 k∧Aside (wr.ownsRow w.heap.size 3 1 s5 (aI n (l.take k)).length ((aI n (l.take k)).flatMap eE))∧Aside (aA w wr))
 case atStart=>exact⟨0,by omega,by omega,rfl,(show Aside _ from World.ownsRow_nil _ _ _ _),(show Aside _ from uX w)⟩
 case round =>
  obtain⟨k,hkk,hgk,rfl,OW,BW⟩:=hrel;by_cases hlt:k<l.length
  case neg =>
   have hltz:=h_198;obtain rfl:k=l.length:=by omega
   have hO:=OW.out;rw[HFin.out] at hO;have HO:=uZ hO;clear hO OW HT0;go_wp2;go_ret;exact⟨_,rfl,HO.out,BW.out⟩
  have hltz:=h_208;have h0z:=h_216;obtain⟨b,off,rfl,hb,hcell⟩:=HR.out b_53;have c0:=hcell wr BW.out k hlt;have HT:=uZ (HT0.out k hlt);have hlen:=HL.out k;clear hcell HFin;generalize l[k]=y at c0 HT;obtain⟨A5,c5,rfl⟩:=aJ OW.out
  cases a1:(y != n) with
  | false =>
   have a2:(y == n)=true:=by simpa using a1
   rw[a2] at HT;go_wp2;go_roundg (l.length-(k+1))
   case measure=>omega
   case rel =>
    refine⟨k+1,by omega,by omega,by go_num,?_,BW⟩;have:=HT.out;simp only [if_true,List.append_nil] at this;rw[this];exact OW
  | true =>
   have a2:(y == n)=false:=by simpa using a1
   rw[a2] at HT;exact c_43
def mW (n before:Int):List Int→List Int
 | []=>[]
 | x::r=>(if x == before then[n,x] else[x])++mW n before r
theorem aEw (n before:Int):∀ l m:List Int,mW n before (l++m)=mW n before l++mW n before m
 | [],_=>rfl
 | x::r,m=>by
  show _++mW n before (r++m)=(_++mW n before r)++_;rw[aEw n before r m,List.append_assoc]
theorem aKz (l:List Int) (n before:Int) (k:Nat) (hk:k<l.length):mW n before (l.take (k+1))=mW n before (l.take k)++(if l[k] == before then[n,l[k]] else[l[k]]):=by
 rw[List.take_succ_eq_append_getElem hk,aEw]
 congr 1
 exact List.append_nil _
theorem aEv (n before:Int):∀ l:List Int,(mW n before l).length≤2*l.length
 | []=>Nat.zero_le _
 | x::r=>by
  have:=aEv n before r;show((if x == before then[n,x] else[x])++mW n before r).length≤_;rw[List.length_append,List.length_cons];split<;>simp<;>omega
theorem aLa (n before:Int):∀ {l:List Int},before∉l→mW n before l=l
 | [],_=>rfl
 | x::r,h=>by
  have hx:(x == before)=false:=by simpa using fun e=>h (by rw[e];exact List.mem_cons_self ..)
  show(if x == before then[n,x] else[x])++mW n before r=_;rw[hx,aLa n before fun hm=>h (List.mem_cons_of_mem _ hm)];rfl
theorem aCn {n before:Int}:∀ {l:List Int},l.Nodup→(0:Int)∉l→iL n before l=mW n before l++(if before=0 then[n] else[])
 | [],_,_=>rfl
 | x::r,hn,h0=>by
  have hn':=List.nodup_cons.1 hn;have ih:=aCn (n:=n) (before:=before) hn'.2 fun hm=>h0 (List.mem_cons_of_mem _ hm)
  show(if x=before then n::x::r else x::iL n before r)=((if x == before then[n,x] else[x])++mW n before r)++_;by_cases e:x=before
  ·subst e
   have hx:x≠0:=fun e=>h0 (by rw[e];exact List.mem_cons_self ..)
   rw[if_pos rfl,aLa n x hn'.1,if_neg hx];simp
  ·have hx:(x == before)=false:=by simpa using e
   rw[if_neg e,hx,ih];simp
theorem aKy {W:World} {b:Nat} {e:TypeId} {v:Value} {l:List Int} {x:Int} (h:W.ownsRow b e 1 v (l.length+[Value.int .i64 x].length) (l.flatMap eE++[.int .i64 x])):W.ownsRow b e 1 v (l++[x]).length ((l++[x]).flatMap eE):=by
 rw[List.flatMap_append,List.length_append];exact h
theorem mV (l:List Int) (n before:Int) (v:Value) (w:World) (hv:SlI w v l) (hl:l.length≤1000000):Calls Tryz.prog 153 #[v,.int .i64 n,.int .i64 before] w (aOm (mW n before l++(if before=0 then[n] else[])) w):=by
 obtain⟨A,c,rfl,hlc,hc,hr⟩:=hv.open_;have HR:=uZ hr;obtain⟨i0,hi,hz0,hz1,hz2⟩:=info_parts lJ;clear hv hr hc hlc;have HL:=uZ (fun k (hk:k≤l.length)=>show(mW n before (l.take k)).length≤2*l.length from Nat.le_trans (aEv n before _) b_41);have HT0:=uZ (fun k hk=>aKz l n before k hk);have HFin:=uZ (show mW n before (l.take l.length)=mW n before l by rw[List.take_length]);generalize hOUT:mW n before l++(if before=0 then[n] else[])=OUT;have HOUT:=uZ hOUT;clear hOUT;go_enter Tryz.func153,Tryz.ntmps153;go_wp2;go_loopg [7,8] l.length (fun gg s7 s8 wr=>∃ k:Nat,k≤l.length∧l.length-k≤gg∧s8=.int .i64 k∧Aside (wr.ownsRow w.heap.size 3 1 s7 (mW n before (l.take k)).length ((mW n before (l.take k)).flatMap eE))∧Aside (aA w wr))
 case atStart=>exact⟨0,by omega,by omega,rfl,(show Aside _ from World.ownsRow_nil _ _ _ _),(show Aside _ from uX w)⟩
 case round =>
  obtain⟨k,hkk,hgk,rfl,OW,BW⟩:=hrel;by_cases hlt:k<l.length
  case neg =>
   have hltz:=h_198;obtain rfl:k=l.length:=by omega
   have hO:=OW.out;have hlen:=HL.out l.length (Nat.le_refl _);rw[HFin.out] at hO hlen;have HO:=uZ hO;clear hO OW HT0;obtain⟨A5,c5,rfl⟩:=aJ HO.out
   cases a1:(before == 0) with
   | false =>
    have a2:¬ before=0:=by simpa using a1
    have hx:=HOUT.out;rw[if_neg a2,List.append_nil] at hx;subst hx;go_wp2;go_ret;exact⟨_,rfl,HO.out,BW.out⟩
   | true =>
    have a2:before=0:=by simpa using a1
    have hx:=HOUT.out;rw[if_pos a2] at hx;have HX:=uZ hx;clear hx HOUT a2;go_wp2_with (at_builtin;refine aEa rfl _ _ 38 rfl w 3 i0 (.int .i64 0) 1 8 Tryz.underlying38 hi hz0 hz1 hz2 rfl b_53 _ _ _ b_55 wr HO.out BW.out wr.heap.size b_54 [.int .i64 n] b_55 rfl rfl b_47 b_53 ?_;intro v8 w8 hown8 hg8;obtain⟨A8,c8,rfl⟩:=aJ hown8;have HOW8:=uZ hown8;have HG8:=uZ hg8;clear hown8 hg8)
    go_ret;refine⟨_,rfl,?_,HG8.out⟩;rw[← HX.out,List.flatMap_append,List.length_append];exact HOW8.out
  have hltz:=h_208;have h0z:=h_216;obtain⟨b,off,rfl,hb,hcell⟩:=HR.out b_53;have c0:=hcell wr BW.out k hlt;have HCX:=uZ (fun W hW=>hcell W hW k hlt);have HT:=uZ (HT0.out k hlt);have hlen:=HL.out k hkk;clear hcell HFin HT0 HOUT;generalize l[k]=y at c0 HT HCX;obtain⟨A5,c5,rfl⟩:=aJ OW.out
  cases a1:(y == before) with
  | false =>
   rw[a1] at HT;exact c_43
  | true =>
   rw[a1] at HT;go_wp2_with (first|(at_builtin;refine aEa rfl _ _ 38 rfl w 3 i0 (.int .i64 0) 1 8 Tryz.underlying38 hi hz0 hz1 hz2 rfl b_53 _ _ _ b_55 w8 HOW8.out HG8.out w8.heap.size b_54 [.int .i64 y] b_55 rfl rfl b_47 b_53 ?_;intro v9 w9 hown9 hg9;have HOW9:=uZ hown9;have HG9:=uZ hg9;clear hown9 hg9)|(at_builtin;refine aEa rfl _ _ 38 rfl w 3 i0 (.int .i64 0) 1 8 Tryz.underlying38 hi hz0 hz1 hz2 rfl b_53 _ _ _ b_55 wr OW.out BW.out wr.heap.size b_54 [.int .i64 n] b_55 rfl rfl b_47 b_53 ?_;intro v8 w8 hown8 hg8;have hown8:=aKy hown8;obtain⟨L1,hL1⟩:∃ L1,L1=mW n before (l.take k)++[n]:=⟨_,rfl⟩;rw[← hL1] at hown8;have hlen1:L1.length≤2*l.length+1:=(by rw[hL1,List.length_append];simp;omega);have HL1:=uZ hL1;clear hL1;obtain⟨A8,c8,rfl⟩:=aJ hown8;have c8':=HCX.out w8 hg8;have HOW8:=uZ hown8;have HG8:=uZ hg8;clear hown8 hg8))
   go_roundg (l.length-(k+1))
   case measure=>omega
   case rel =>
    refine⟨k+1,by omega,by omega,by go_num,?_,(show Aside _ from HG9.out)⟩;have:=HT.out;simp only [if_true] at this;have h9:=aKy HOW9.out;rw[HL1.out] at h9;rw[this,show mW n before (l.take k)++[n,y]=(mW n before (l.take k)++[n])++[y] by simp];exact h9
def blk:Value→Option Nat
 | .slice (some a) n _=>if n=0 then none else some a.block
 | _=>none
theorem rZ (a:Addr) (n c:Nat):blk (.slice (some a) n c)=if n=0 then none else some a.block:=rfl
theorem sK {w:World} {v:Value} {l:List Int} {k:Nat} (h:SlI w v l) (hk:blk v=some k):k<w.heap.size:=by
 obtain⟨A,n,c,rfl,hl,hn,hc,h0⟩:=h
 cases A with
 | none=>cases hk
 | some a =>
  rw[rZ] at hk;by_cases hne:n=0
  ·rw[if_pos hne] at hk
   cases hk
  ·rw[if_neg hne] at hk
   obtain⟨b,off,e,hb,-⟩:=h0 b_53;injection e with e;subst e;injection hk with hk;subst hk;exact hb
theorem iX {v:Value} {k:Nat} (h:blk v=some k):v.ownBlock=some k:=by
 cases v with
 | slice A n c =>
  cases A with
  | none=>cases h
  | some a =>
   rw[rZ] at h;by_cases hne:n=0
   ·rw[if_pos hne] at h
    cases h
   ·rw[if_neg hne] at h
    exact h
 | _=>cases h
theorem qT {W:World} {k:Nat} {v:Value} {cs:List Value} {p:Addr} (u:Value) (h:Rd W k v cs) (hp:blk v≠some p.block):Rd (W.setCell p u) k v cs:=by
 obtain⟨A,n,c,rfl,hl,hn,hc,h0⟩:=h;refine⟨A,n,c,rfl,hl,hn,hc,fun hpos=>?_⟩;obtain⟨b,off,rfl,hb,hcell⟩:=h0 hpos;refine⟨b,off,rfl,by simpa using hb,fun j x hx=>?_⟩;rw[uV _ _ _ _ (fun e=>hp (by subst e;rw[rZ,if_neg b_53]))];exact hcell j x hx
theorem aKv {w w':World} {row:Option Nat} {k:Nat} {v:Value} {cs:List Value} (h:Rd w k v cs) (hg:w.grownBy w' row) (hr:∀ b,blk v=some b→row≠some b):Rd w' k v cs:=by
 obtain⟨A,n,c,rfl,hl,hn,hc,h0⟩:=h;refine⟨A,n,c,rfl,hl,hn,hc,fun hp=>?_⟩;obtain⟨b,off,rfl,hb,hcell⟩:=h0 hp;exact⟨b,off,rfl,Nat.lt_of_lt_of_le hb hg.size,fun j u hu=>hg.cell (hcell j u hu) (fun e=>hr b (by rw[rZ,if_neg b_53]) e.symm)⟩
def aJb (P:Nat→Prop) (s v:Value):Prop:=∀ k,blk v=some k→s.ownBlock≠some k∧P k
structure pS (P:Nat→Prop) (base:Nat) (w:World) (bv:Value) (cs:List BrC) (l:List Br):Prop where
 brs:w.ownsRow base 66 6 bv l.length (cs.flatMap BrC.cells)
 len:cs.length=l.length
 each:∀ i (h:i<cs.length) (h':i<l.length),vW w cs[i] l[i]∧aJb P bv cs[i].kv
section
variable {P:Nat→Prop} {base:Nat} {w w2 w3:World} {bv bv':Value} {cs:List BrC} {l:List Br}
theorem pS.done (h:pS P base w bv cs l):bQ w bv l:=⟨cs,Rd.of_own h.brs,h.len,fun i h1 h2=>(h.each i h1 h2).1⟩
theorem pS.grew (h:pS P base w bv cs l) (g:aA w w2):pS P base w2 bv cs l :=
 ⟨aZ h.brs g,h.len,fun i h1 h2=>⟨⟨(h.each i h1 h2).1.1,(h.each i h1 h2).1.2.mono g⟩,(h.each i h1 h2).2⟩⟩
theorem pS.to (h:pS P base w bv cs l) {Q:Nat→Prop} {b2:Nat} (hb:b2≤base) (hQ:∀ k,k<w.heap.size→P k→Q k):pS Q b2 w bv cs l :=
 ⟨h.brs.mono hb,h.len,fun i h1 h2=>⟨(h.each i h1 h2).1,fun k hk=>⟨((h.each i h1 h2).2 k hk).1,hQ k (sK (h.each i h1 h2).1.2 hk) ((h.each i h1 h2).2 k hk).2⟩⟩⟩
theorem pS.none_:pS P base w (.slice none 0 0) [] []:=⟨World.ownsRow_nil _ _ _ _,rfl,fun _ h=>absurd h (Nat.not_lt_zero _)⟩
theorem pS.aside (h:pS P base w bv cs l) (a:Addr) (u:Value) (h1:bv.ownBlock≠some a.block) (h2:¬ P a.block):pS P base (w.setCell a u) bv cs l :=
 ⟨ownsRow_setCell_other h.brs h1 u,h.len,fun i k1 k2=>⟨⟨(h.each i k1 k2).1.1,qT u (h.each i k1 k2).1.2 (fun e=>h2 ((h.each i k1 k2).2 _ e).2)⟩,(h.each i k1 k2).2⟩⟩
theorem pS.step (h:pS P base w bv cs l) (b:Br) (c:BrC) (g:aA w w2) (hc:vW w2 c b) (h1:∀ k,blk c.kv=some k→w.heap.size≤k∧P k) (hgr:w2.grownBy w3 bv.ownBlock)
  (hown:w3.ownsRow base 66 6 bv' (l.length+1) (cs.flatMap BrC.cells++c.cells)) (hat:∀ b,bv'.ownBlock=some b→bv.ownBlock=some b∨w2.heap.size≤b):pS P base w3 bv' (cs++[c]) (l++[b]):=by
 have hlow:=fun b hb=>(h.brs.lt b hb).2
 have hsz:=g.size;refine⟨by rw[List.flatMap_append];simpa using hown,by simp[h.len],fun i hi hi'=>?_⟩
 have key:∀(d:BrC) (a:Br),vW w2 d a→aJb P bv d.kv→vW w3 d a∧aJb P bv' d.kv:=by
  intro d a hd hx;refine⟨⟨hd.1,aKv hd.2 hgr (fun b hb=>(hx b hb).1)⟩,fun b hb=>⟨fun e=>?_,(hx b hb).2⟩⟩;rcases hat b e with h|h
  ·exact(hx b hb).1 h
  ·have:=sK hd.2 hb;omega
 have hl:=h.len;by_cases hik:i<cs.length
 ·have hil:i<l.length:=by omega
  rw[List.getElem_append_left hik,List.getElem_append_left hil];obtain⟨r1,r2⟩:=h.each i hik hil;exact key _ _ ⟨r1.1,r1.2.mono g⟩ r2
 ·have:i=cs.length:=by simp at hi;omega
  subst this;rw[List.getElem_append_right (Nat.le_refl _),List.getElem_append_right b_53];simp only [hl,Nat.sub_self,List.getElem_cons_zero];exact key c _ hc (fun b hb=>⟨fun e=>by have:=hlow b e;have:=(h1 b hb).1;omega,(h1 b hb).2⟩)
theorem pS.poke (h:pS P base w bv cs l) {i j:Nat} (hi:i<cs.length) (hi':i<l.length) (hj:j<6) {c':BrC} {b':Br} {u:Value} (hc:c'.cells=cs[i].cells.set j u) (hb:c'=b'.c c'.kv) (hk:SlI w c'.kv b'.kids) (ho:aJb P bv c'.kv) {B cap:Nat} (hbv:bv=.slice (some ⟨B,0,none⟩) l.length cap) :
  pS P base (w.setCell ⟨B,i*6+j,none⟩ u) bv (cs.set i c') (l.set i b'):=by
 subst hbv;have hset:∀ {v:Value} {ks:List Int},SlI w v ks→aJb P (.slice (some ⟨B,0,none⟩) l.length cap) v→SlI (w.setCell ⟨B,i*6+j,none⟩ u) v ks:=fun hv hx=>qT u hv (fun e=>(hx _ e).1 rfl)
 refine⟨?_,by simp[h.len],fun m hm hm'=>?_⟩
 ·have h1:=(h.brs.stored (i*6+j) u).1
  rw[rV hj hc cs i hi rfl] at h1;simpa using h1
 ·have hm2:m<cs.length:=by simpa using hm
  have hm3:m<l.length:=by simpa using hm'
  by_cases e:m=i
  ·subst e
   rw[List.getElem_set_self,List.getElem_set_self];exact⟨⟨hb,hset hk ho⟩,ho⟩
  ·rw[List.getElem_set_ne b_53,List.getElem_set_ne b_53]
   obtain⟨e1,e2⟩:=h.each m hm2 hm3;exact⟨⟨e1.1,hset e1.2 e2⟩,e2⟩
theorem pS.cells (h:pS P base w bv cs l) {k:Nat} (hk:k<l.length):∃ B cap kv,bv=.slice (some ⟨B,0,none⟩) l.length cap∧base≤B∧B<w.heap.size∧SlI w kv l[k].kids∧aJb P bv kv∧(∀ j,w.frozen? ⟨B,j,none⟩=false) ∧
  w.cell? ⟨B,k*6,none⟩=some (.int .i64 l[k].id)∧w.cell? ⟨B,k*6+1,none⟩=some (.int .i64 l[k].parent)∧w.cell? ⟨B,k*6+2,none⟩=some (.int .i64 l[k].level)∧w.cell? ⟨B,k*6+3,none⟩=some (.string l[k].title)∧w.cell? ⟨B,k*6+4,none⟩=some (.string l[k].mark)∧w.cell? ⟨B,k*6+5,none⟩=some kv:=by
 have hic:k<cs.length:=by have:=h.len;omega
 obtain⟨e1,e2⟩:=h.each k hic hk;obtain⟨B,cap,hbv,hbb,-,-⟩:=fH h.brs b_53;subst hbv;have hlt:=h.brs.lt B rfl;have key:=h_41;have e3:=e1.1;rw[e3] at key;exact⟨B,cap,cs[k].kv,rfl,hlt.1,hlt.2,e1.2,e2,fun j=>h.brs.frozenAt _,key 0 b_53,key 1 b_53,key 2 b_53,key 3 b_53,key 4 b_53,key 5 b_53⟩
end
def bBf (t:Tr) (w:World) (e:Ending) (w':World):Prop:=∃ rv bv cs,e=.returned (.agg #[rv,bv])∧SlI w' rv t.roots∧aJb (fun k=>w.heap.size≤k) bv rv∧pS (fun k=>w.heap.size≤k) w.heap.size w' bv cs t.brs∧aA w w'
theorem h_36 {p:Prop} (h:p:=by
 exact aF (a:=w.alloc (.cells #[.slice Ar t.roots.length cr,.slice Ab t.brs.length cb] 43)) (X:=w.heap.size+1) (p:=.cells #[.slice none 0 0,.slice none 0 0] 43) b_54
):p:=h
theorem h_56 {p:Prop} (h:p:=by
 exact uZ (((uX w).alloc (.cells #[.slice Ar t.roots.length cr,.slice Ab t.brs.length cb] 43)).alloc (.cells #[.slice none 0 0,.slice none 0 0] 43))
):p:=h
theorem h_225 {p:Prop} (h:p:=by
 exact uZ (GA.out.trans G1.out)
):p:=h
structure oO (w:World) (t:Tr) (tb:Array Value) (rv bv:Value) (cs:List BrC) (X k:Nat) (wr:World):Prop where
 cop:pS (fun x=>X<x) w.heap.size wr bv cs (t.brs.take k)
 roots:pR w.heap.size wr rv t.roots
 box:wr.heap[X]? = some (.cells #[rv,bv] 43 (0,0))
 src:wr.heap[w.heap.size]? = some (.cells tb 43 (0,0))
 res:wr.heap[w.heap.size+1]? = some (.cells #[.slice none 0 0,.slice none 0 0] 43 (0,0))
 lo:w.heap.size+2≤X
 grew:aA w wr
theorem oO.step {w wr w5 w3:World} {t:Tr} {tb:Array Value} {rv bv v5 bv':Value} {cs:List BrC} {X k:Nat} {o1 o2:Obj} (h:oO w t tb rv bv cs X k wr) (hk:k<t.brs.length) (hg5:aA (wr.alloc o1) w5) (ho5:pR (wr.alloc o1).heap.size w5 v5 t.brs[k].kids)
  (hgr:((w5.setCell ⟨wr.heap.size,5,none⟩ v5).alloc o2).grownBy w3 bv.ownBlock) (hown:w3.ownsRow w.heap.size 66 6 bv' (k+1) (cs.flatMap BrC.cells++(t.brs[k].c v5).cells)) (hat:∀ b,bv'.ownBlock=some b→bv.ownBlock=some b∨b=(w5.setCell ⟨wr.heap.size,5,none⟩ v5).heap.size+1) :
  oO w t tb rv bv' (cs++[t.brs[k].c v5]) X (k+1) (w3.setCell ⟨X,1,none⟩ bv'):=by
 have hXl:X<wr.heap.size:=(Array.getElem?_eq_some_iff.1 h.box).1;have hlo:=h.lo;rw[eN] at ho5;have g5:aA wr w5:=((uX wr).alloc o1).trans hg5;have g6:aA wr (w5.setCell ⟨wr.heap.size,5,none⟩ v5):=g5.setCell (Nat.le_refl _) v5;have hs5:=g5.size;have g7:=g6.alloc o2;have hs7:((w5.setCell ⟨wr.heap.size,5,none⟩ v5).alloc o2).heap.size=w5.heap.size+1:=by rw[eN];simp
 have hs6:(w5.setCell ⟨wr.heap.size,5,none⟩ v5).heap.size=w5.heap.size:=by simp
 have hb5:∀ b,blk v5=some b→wr.heap.size+1≤b:=fun b hb=>(ho5.lt b (iX hb)).1
 have hv6:SlI (w5.setCell ⟨wr.heap.size,5,none⟩ v5) v5 t.brs[k].kids:=qT v5 (Rd.of_own ho5) (fun e=>by have:wr.heap.size+1≤wr.heap.size:=hb5 _ e;omega);have hlen:(t.brs.take k).length=k:=by rw[List.length_take];omega
 have hbvX:bv.ownBlock≠some X:=cR h.cop.brs h.box oH;have c3:=h.cop.step (w2:=(w5.setCell ⟨wr.heap.size,5,none⟩ v5).alloc o2) (w3:=w3) (bv':=bv') t.brs[k] (t.brs[k].c v5) g7 ⟨rfl,hv6.mono ((uX _).alloc o2)⟩ (fun x hx=>by have:=hb5 x hx;exact⟨by omega,by omega⟩) hgr (by rw[hlen];exact hown) (fun b hb=>(hat b hb).imp_right fun e=>by omega);have htk:t.brs.take (k+1)=t.brs.take k++[t.brs[k]]:=List.take_succ_eq_append_getElem hk;rw[← htk] at c3
 have hbv'X:bv'.ownBlock≠some X:=fun e=>by
  rcases hat X e with h1|h1
  ·exact hbvX h1
  ·omega
 have hX3:=gV (uK g7 h.box) hgr hbvX;have hr3:=iM (aZ h.roots g7) hgr (fun g hr hv=>lY h.roots h.cop.brs rI g hv hr)
 have keep:∀ {Y:Nat} {c:Array Value},wr.heap[Y]? = some (.cells c 43 (0,0))→Y≠X→(w3.setCell ⟨X,1,none⟩ bv').heap[Y]? = some (.cells c 43 (0,0)):=fun hY hne =>
  cG _ _ (gV (uK g7 hY) hgr (cR h.cop.brs hY oH)) hne
 refine⟨c3.aside _ _ hbv'X (Nat.lt_irrefl X),ownsRow_setCell_other hr3 (cR hr3 hX3 xA) _,?_,keep h.src b_53,keep h.res b_53,hlo,?_⟩
 ·have:=heap_setCell_same w3 X 1 #[rv,bv] 43 bv' hX3
  simpa using this
 ·exact(Below.grown (h.grew.trans g7) hgr (by have:=h.grew.size;omega) (fun b hb=>(h.cop.brs.lt b hb).1)).setCell (by show w.heap.size≤X;omega) _
theorem oO.done {w wr:World} {t:Tr} {tb:Array Value} {rv bv x y:Value} {cs:List BrC} {X:Nat} (h:oO w t tb rv bv cs X t.brs.length wr):SlI ((wr.setCell ⟨w.heap.size+1,0,none⟩ x).setCell ⟨w.heap.size+1,1,none⟩ y) rv t.roots∧aJb (fun k=>w.heap.size≤k) bv rv∧pS (fun k=>w.heap.size≤k) w.heap.size ((wr.setCell ⟨w.heap.size+1,0,none⟩ x).setCell ⟨w.heap.size+1,1,none⟩ y) bv cs t.brs∧aA w ((wr.setCell ⟨w.heap.size+1,0,none⟩ x).setCell ⟨w.heap.size+1,1,none⟩ y):=by
 have hR2:=heap_setCell_same wr (w.heap.size+1) 0 _ _ x h.res;have hlo:=h.lo;have hc:=h.cop;rw[List.take_length] at hc;have r1:=ownsRow_setCell_other (a:=⟨w.heap.size+1,0,none⟩) h.roots (cR h.roots h.res xA) x;have r2:=ownsRow_setCell_other (a:=⟨w.heap.size+1,1,none⟩) r1 (cR r1 hR2 xA) y;have c1:=hc.aside ⟨w.heap.size+1,0,none⟩ x (cR hc.brs h.res oH) (by show ¬ X<w.heap.size+1;omega);have c2:=c1.aside ⟨w.heap.size+1,1,none⟩ y (cR hc.brs h.res oH) (by show ¬ X<w.heap.size+1;omega);exact⟨Rd.of_own r2,fun k hk=>⟨fun e=>lY h.roots hc.brs rI k (iX hk) e,(h.roots.lt k (iX hk)).1⟩,c2.to (Nat.le_refl _) (fun k _ hk=>by omega),(h.grew.setCell b_38 _).setCell b_38 _⟩
theorem uP (t:Tr) (rv bv:Value) (w:World) (hr:SlI w rv t.roots) (hv:bQ w bv t.brs) (hf:cF t.brs) (hrl:t.roots.length≤1000000) :
  Calls Tryz.prog 206 #[.agg #[rv,bv]] w (bBf t w):=by
 have HRD:=uZ hr;have HFK:=uZ (fun k (hk:k<t.brs.length)=>hf.2 k hk);have hfl1:=hf.1;obtain⟨Ar,cr,rfl,-⟩:=SlI.open_ hr;obtain⟨Ab,cb,rfl,-,-,hbr⟩:=bQ.open_ hv;have HBR:=uZ hbr;obtain⟨k0,hk0,hx0,hx1,hx2⟩:=info_parts lJ;obtain⟨i0,hi0,hz0,hz1,hz2⟩:=info_parts rD;clear hr hv hf hbr;have GA:=h_56;have hXA:=uK ((uX (w.alloc (.cells #[.slice Ar t.roots.length cr,.slice Ab t.brs.length cb] 43))).alloc (.cells #[.slice none 0 0,.slice none 0 0] 43)) (aF (a:=w) (X:=w.heap.size) rfl);have hRA:=h_36;have hSA:((w.alloc (.cells #[.slice Ar t.roots.length cr,.slice Ab t.brs.length cb] 43)).alloc (.cells #[.slice none 0 0,.slice none 0 0] 43)).heap.size=w.heap.size+2:=by rw[eN,eN]
 have hflr:=aL eE 1 (fun _=>rfl) t.roots;obtain⟨WA,hWA⟩:∃ WA,WA=(w.alloc (.cells #[.slice Ar t.roots.length cr,.slice Ab t.brs.length cb] 43)).alloc (.cells #[.slice none 0 0,.slice none 0 0] 43):=⟨_,rfl⟩
 rw[← hWA] at hXA hRA hSA GA;have HXA:=uZ hXA;have HRA:=uZ hRA;have HSA:=uZ hSA;have HWA:=uZ hWA;clear hXA hRA hSA hWA;go_enter Tryz.func206,Tryz.ntmps206;go_wp2_with (at_builtin;rw[← HWA.out];refine aXi rfl _ _ 38 rfl WA 3 k0 (.int .i64 0) 1 8 Tryz.underlying38 hk0 hx0 hx1 hx2 rfl b_53 _ 0 [] b_55 _ (fS (w.heap.size+2) HSA.out (by rw[HSA.out];exact Nat.le_refl _)) ((uX _).alloc _) _ t.roots.length (t.roots.flatMap eE) b_55 (Rd.mono HRD.out (GA.out.trans ((uX _).alloc _))) hflr (fI _) b_47 b_53 ?_;intro v1 w1 o1 g1 _;simp only [Nat.zero_add,List.nil_append] at o1;obtain⟨A1,c1,rfl⟩:=aJ o1;have O1:=uZ o1;have G1:=uZ g1;clear o1 g1)
 have hX1:=aF (a:=w1) (X:=w1.heap.size) (p:=.cells #[.slice A1 t.roots.length c1,.slice none 0 0] 43) rfl;have HG1:=h_225
 have HST:=uZ (show oO w t #[.slice Ar t.roots.length cr,.slice Ab t.brs.length cb] (.slice A1 t.roots.length c1) (.slice none 0 0) [] w1.heap.size 0 (w1.alloc (.cells #[.slice A1 t.roots.length c1,.slice none 0 0] 43)) from
  ⟨by rw[List.take_zero];exact pS.none_,aZ (World.ownsRow.mono O1.out GA.out.size) ((uX w1).alloc _),hX1,uK (G1.out.alloc _) HXA.out,uK (G1.out.alloc _) HRA.out,by have:=G1.out.size;rw[HSA.out] at this;exact this,HG1.out.alloc _⟩)
 clear hX1 HG1 O1 G1 HXA HRA HSA HWA GA HRD hflr;generalize w1.heap.size=X at HST ⊢;generalize w1.alloc (.cells #[.slice A1 t.roots.length c1,.slice none 0 0] 43)=WB at HST ⊢;go_loopg [4] t.brs.length (fun gg s4 wr=>∃(k:Nat) (bv:Value) (cs:List BrC),k≤t.brs.length∧t.brs.length-k≤gg∧s4=.int .i64 k∧Aside (oO w t #[.slice Ar t.roots.length cr,.slice Ab t.brs.length cb] (.slice A1 t.roots.length c1) bv cs X k wr))
 case atStart=>exact⟨0,_,_,by omega,by omega,rfl,(show Aside _ from HST.out)⟩
 case round =>
  clear HST;obtain⟨k,bv,cs,hkl,hgk,rfl,HC⟩:=hrel;have y0:wr.cell? ⟨w.heap.size,0,none⟩=some (.slice Ar t.roots.length cr):=by have:=HC.out.src;simp[World.cell?,this]
  have y1:wr.cell? ⟨w.heap.size,1,none⟩=some (.slice Ab t.brs.length cb):=by have:=HC.out.src;simp[World.cell?,this]
  by_cases hlt:k<t.brs.length
  ·have hltz:(k:Int)<(t.brs.length:Int):=by omega
   have h0z:=h_216;obtain⟨b,off,rfl,hb,hcell⟩:=HBR.out b_53;obtain⟨kv,hkv,hcl⟩:=hcell k hlt;obtain⟨c0,c1',c2,c3,c4,c5⟩:=hcl wr HC.out.grew;have HKV:=uZ (hkv.mono HC.out.grew);have hfk:=HFK.out k hlt;obtain⟨Ak,ck,rfl,-⟩:=SlI.open_ hkv;have HSTEP:=uZ (fun w5 w3 v5 bv' o1 o2 h1 h2 h3 h4 h5=>HC.out.step (w5:=w5) (w3:=w3) (v5:=v5) (bv':=bv') (o1:=o1) (o2:=o2) hlt h1 h2 h3 h4 h5);have HROW:=uZ HC.out.cop.brs;have HGW:=uZ HC.out.grew;have hXl:X<wr.heap.size:=(Array.getElem?_eq_some_iff.1 HC.out.box).1;have hXlo:=HC.out.lo;have HBX:=uZ HC.out.box;have HBXn:=uZ (cR HC.out.cop.brs HC.out.box oH);have hlen:(t.brs.take k).length=k:=by rw[List.length_take];omega
   rw[hlen] at HROW;clear hcell hcl hkv HC y0 hlen;generalize t.brs[k]=y at c0 c1' c2 c3 c4 c5 HKV hfk HSTEP;obtain⟨yi,yp,yl,yt,ym,yk⟩:=y;dsimp only at c0 c1' c2 c3 c4 c5 HKV hfk HSTEP;have hfx:=aL eE 1 (fun _=>rfl) yk;have hne:¬ X=wr.heap.size:=by omega
   go_wp2_with (first|(at_builtin;refine aXi rfl _ _ 38 rfl (wr.alloc (.cells #[.int .i64 yi,.int .i64 yp,.int .i64 yl,.string yt,.string ym,.slice Ak yk.length ck] 66)) 3 k0 (.int .i64 0) 1 8 Tryz.underlying38 hk0 hx0 hx1 hx2 rfl b_53 _ 0 [] b_55 _ (fS (wr.heap.size+1) b_54 b_54) ((uX _).alloc _) _ yk.length (yk.flatMap eE) b_55 (Rd.mono HKV.out (((uX _).alloc _).alloc _)) hfx (fI _) b_47 b_53 ?_;intro v5 w5 o5 g5 _;simp only [Nat.zero_add,List.nil_append] at o5;obtain⟨A5,c5',rfl⟩:=aJ o5;have O5:=uZ o5;have G5:=uZ g5;have d0:=yQ g5 0 _ rfl;have d1:=yQ g5 1 _ rfl;have d2:=yQ g5 2 _ rfl;have d3:=yQ g5 3 _ rfl;have d4:=yQ g5 4 _ rfl;have d5:=yQ g5 5 _ rfl;have f5:=nQ (uK g5 (aF (a:=wr) rfl)) 5;have x1:w5.cell? ⟨X,1,none⟩=some bv:=(by have:=uK (((uX wr).alloc _).trans g5) HBX.out;simp[World.cell?,this]);have hs6:(w5.setCell ⟨wr.heap.size,5,none⟩ (.slice A5 yk.length c5')).heap.size=w5.heap.size:=b_54;have hge:=HGW.out.size;have hge5:=g5.size;rw[eN] at hge5;clear o5 g5)|(at_builtin;refine wpList_append_lies _ rfl _ _ 41 rfl w.heap.size 66 i0 (.agg #[.int .i64 0,.int .i64 0,.int .i64 0,.string ⟨#[]⟩,.string ⟨#[]⟩,.slice none 0 0]) 6 80 Tryz.underlying41 hi0 hz0 hz1 hz2 rfl b_53 _ k _ b_55 ((aZ HROW.out ((((uX wr).alloc _).trans G5.out).setCell (Nat.le_refl _) _)).alloc _) ⟨w5.heap.size,0,none⟩ 1 1 [.int .i64 yi,.int .i64 yp,.int .i64 yl,.string yt,.string ym,.slice A5 yk.length c5'] b_55 rfl (fun j u hj=>(by rw[bT,Nat.zero_add,← hs6];exact yQ (uX _) j u hj)) (fun u hu=>(by simp at hu;rcases hu with rfl|rfl|rfl|rfl|rfl|rfl<;>rfl)) b_53 b_47 b_53 (by rw[eN,hs6];omega) (w5.heap.size+1) b_54 ?_;intro g3 cap3 w3 hown3 hgr3 hat3 hlt3;have HFIN:=uZ (HSTEP.out w5 w3 _ (.slice (some ⟨g3,0,none⟩) (k+1) cap3) _ _ G5.out (World.ownsRow.mono O5.out (by exact Nat.le_refl _)) hgr3 hown3 (fun b hb=>(by simp[Value.ownBlock] at hb;subst hb;rw[hs6];exact hat3)));have hX3:=gV (uK (((((uX wr).alloc _).trans G5.out).setCell (Nat.le_refl _) _).alloc _) HBX.out) hgr3 HBXn.out;have x3:w3.cell? ⟨X,1,none⟩=some bv:=(by simp[World.cell?,hX3]);have f3:=nQ hX3 1;clear hown3 hgr3 hat3 hlt3 hX3))
   go_roundg (t.brs.length-(k+1))
   case measure=>omega
   case rel=>exact⟨k+1,_,_,by omega,by omega,by go_num,(show Aside _ from HFIN.out)⟩
  ·have hltz:¬ (k:Int)<(t.brs.length:Int):=by omega
   obtain rfl:k=t.brs.length:=by omega
   have x0:wr.cell? ⟨X,0,none⟩=some (.slice A1 t.roots.length c1):=by have:=HC.out.box;simp[World.cell?,this]
   have x1:wr.cell? ⟨X,1,none⟩=some bv:=by have:=HC.out.box;simp[World.cell?,this]
   have q0:wr.cell? ⟨w.heap.size+1,0,none⟩=some (.slice none 0 0):=by have:=HC.out.res;simp[World.cell?,this]
   have q1:wr.cell? ⟨w.heap.size+1,1,none⟩=some (.slice none 0 0):=by have:=HC.out.res;simp[World.cell?,this]
   have z0:=nQ HC.out.res 0;have z1:=nQ HC.out.res 1;obtain⟨A2,c2,rfl⟩:=aJ HC.out.cop.brs;go_wp2_with fail;obtain⟨p0,p1⟩:=aK (v0:=(.slice A1 t.roots.length c1)) (v1:=(.slice A2 t.brs.length c2)) q0 q1;refine bodyPost_ret (v:=.agg #[.slice A1 t.roots.length c1,.slice A2 t.brs.length c2]) (by simp[results,Tryz.results206,go_sem,p0,p1]) rfl ?_;obtain⟨d1,d2,d3,d4⟩:=HC.out.done (x:=.slice A1 t.roots.length c1) (y:=.slice A2 t.brs.length c2);rw[List.take_length] at d2 d3;exact⟨_,_,_,rfl,d1,d2,d3,d4⟩
def jO (f:Br→Br) (k:Nat) (l:List Br):List Br:=(l.take k).map f++l.drop k
section
variable (f:Br→Br) (l:List Br)
theorem iV (k:Nat):(jO f k l).length=l.length:=by
 unfold jO;rw[List.length_append,List.length_map,List.length_take,List.length_drop];omega
theorem xD:jO f 0 l=l:=by simp[jO]
theorem aCq:jO f l.length l=l.map f:=by simp[jO]
theorem aLv {k:Nat} (h:k<l.length):(jO f k l)[k]? = some l[k]:=by
 unfold jO;rw[List.getElem?_append_right (by rw[List.length_map,List.length_take];omega),List.getElem?_drop,List.length_map,List.length_take];rw[show k+(k-min k l.length)=k by omega,List.getElem?_eq_getElem h]
theorem vD {k:Nat} (h:k<l.length) (h':k<(jO f k l).length):(jO f k l)[k]=l[k]:=by
 have h1:=aLv f l h;rw[List.getElem?_eq_getElem h'] at h1;exact Option.some.inj h1
theorem xF {k:Nat} (h:k<l.length):(jO f k l).set k (f l[k])=jO f (k+1) l:=by
 unfold jO;have hd:l.drop k=l[k]::l.drop (k+1):=by rw[List.getElem_cons_drop]
 rw[hd,List.take_succ_eq_append_getElem h,List.map_append,List.set_append_right _ _ (by rw[List.length_map,List.length_take];omega)];have:k-((l.take k).map f).length=0:=by rw[List.length_map,List.length_take];omega
 rw[this,List.set_cons_zero];simp
theorem xE {k:Nat} (h:k<l.length) (hf:f l[k]=l[k]):jO f (k+1) l=jO f k l:=by
 rw[← xF f l h,hf];have h2:k<(jO f k l).length:=by rw[iV];exact h
 conv=>lhs;rw[← vD f l h h2]
 exact List.set_getElem_self h2
end
def iD (t:Tr) (p:Int) (ks:List Int):Tr:=⟨if p=0 then ks else t.roots,t.brs.map (jD p ks)⟩
theorem sM {t:Tr} (h:∀ b∈t.brs,b.id≠0) (p:Int) (ks:List Int):iD t p ks=fW t p ks:=by
 unfold iD fW;by_cases hp:p=0
 ·rw[if_pos hp,if_pos hp]
  have:t.brs.map (jD p ks)=t.brs:=by
   conv=>rhs;rw[← List.map_id t.brs]
   refine List.map_congr_left fun b hb=>?_
   unfold jD;rw[if_neg (by rw[hp];exact h b hb)];rfl
  rw[this]
 ·rw[if_neg hp,if_neg hp]
  rfl
def aBn (n:Nat) (W:World) (rv bv:Value) (t:Tr):Prop:=SlI W rv t.roots∧(∀ k,blk rv=some k→n≤k)∧(∀ k,bv.ownBlock=some k→n≤k)∧∃ cs:List BrC,SlB W bv cs∧cs.length=t.brs.length∧∀ i (h:i<cs.length) (h':i<t.brs.length),vW W cs[i] t.brs[i]∧∀ k,blk cs[i].kv=some k→n≤k
theorem aBn.ok {n:Nat} {W:World} {rv bv:Value} {t:Tr} (h:aBn n W rv bv t):dF W rv bv t:=by
 obtain⟨h1,-,-,cs,h2,h3,h4⟩:=h;exact⟨h1,cs,h2,h3,fun i hi hi'=>(h4 i hi hi').1⟩
theorem aBn.mono {n:Nat} {W W':World} {rv bv:Value} {t:Tr} (h:aBn n W rv bv t) (g:aA W W'):aBn n W' rv bv t:=by
 obtain⟨h1,k1,k2,cs,h2,h3,h4⟩:=h;exact⟨h1.mono g,k1,k2,cs,h2.mono g,h3,fun i hi hi'=>⟨⟨(h4 i hi hi').1.1,(h4 i hi hi').1.2.mono g⟩,(h4 i hi hi').2⟩⟩
theorem aBn.set {n:Nat} {W:World} {rv bv:Value} {t:Tr} (h:aBn n W rv bv t) (a:Addr) (u:Value) (ha:a.block<n):aBn n (W.setCell a u) rv bv t:=by
 obtain⟨h1,k1,k2,cs,h2,h3,h4⟩:=h;exact⟨qT u h1 (fun e=>by have:=k1 _ e;omega),k1,k2,cs,aZe u h2 (fun e=>by have:=k2 _ e;omega),h3,fun i hi hi'=>⟨⟨(h4 i hi hi').1.1,qT u (h4 i hi hi').1.2 (fun e=>by have:=(h4 i hi hi').2 _ e;omega)⟩,(h4 i hi hi').2⟩⟩
structure eL (w:World) (n R X:Nat) (rv bv:Value) (cs:List BrC) (rs:List Int) (l:List Br) (wr:World):Prop where
 cop:pS (fun x=>x≠X∧x≠R∧n≤x) w.heap.size wr bv cs l
 roots:SlI wr rv rs
 rOff:aJb (fun x=>x≠X∧x≠R∧n≤x) bv rv
 box:wr.heap[X]? = some (.cells #[rv,bv] 43 (0,0))
 res:wr.heap[R]? = some (.cells #[.slice none 0 0,.slice none 0 0] 43 (0,0))
 lo:w.heap.size≤R
 lt:R<X
 hn:n≤w.heap.size
 grew:aA w wr
section
variable {w wr:World} {n R X:Nat} {rv bv:Value} {cs:List BrC} {rs:List Int} {l:List Br}
theorem eL.cells (h:eL w n R X rv bv cs rs l wr):wr.cell? ⟨X,0,none⟩=some rv∧wr.cell? ⟨X,1,none⟩=some bv∧wr.frozen? ⟨X,0,none⟩=false∧wr.frozen? ⟨X,1,none⟩=false:=by
 have:=h.box;simp[World.cell?,World.frozen?,this]
theorem eL.resCells (h:eL w n R X rv bv cs rs l wr):wr.cell? ⟨R,0,none⟩=some (.slice none 0 0)∧wr.cell? ⟨R,1,none⟩=some (.slice none 0 0)∧wr.frozen? ⟨R,0,none⟩=false∧wr.frozen? ⟨R,1,none⟩=false:=by
 have:=h.res;simp[World.cell?,World.frozen?,this]
theorem eL.start {t:Tr} {WA w1:World} (hn:n≤w.heap.size) (hG:aA w WA) (hR:WA.heap[R]? = some (.cells #[.slice none 0 0,.slice none 0 0] 43 (0,0))) (hlo:w.heap.size≤R) (h1:SlI w1 rv t.roots) (h2:aJb (fun k=>WA.heap.size≤k) bv rv) (h3:pS (fun k=>WA.heap.size≤k) WA.heap.size w1 bv cs t.brs) (h4:aA WA w1):eL w n R w1.heap.size rv bv cs t.roots t.brs (w1.alloc (.cells #[rv,bv] 43)):=by
 have hRl:R<WA.heap.size:=(Array.getElem?_eq_some_iff.1 hR).1;have hs:=h4.size
 exact {
  cop:=(h3.to hG.size (fun k hk hp=>⟨by omega,by omega,by omega⟩)).grew ((uX _).alloc _)
  roots:=h1.mono ((uX _).alloc _)
  rOff:=fun k hk=>⟨(h2 k hk).1,by have:=sK h1 hk;omega,by have:=(h2 k hk).2;omega,by have:=(h2 k hk).2;omega⟩
  box:=aF rfl
  res:=uK (h4.alloc _) hR
  lo:=hlo
  lt:=by omega
  hn:=hn
  grew:=(hG.trans h4).alloc _ }
theorem eL.start2 {t:Tr} {WA w1:World} {kv:Value} {ks:List Int} (hn:n≤w.heap.size) (hkn:∀ k,blk kv=some k→n≤k) (hG:aA w WA) (hR:WA.heap[R]? = some (.cells #[.slice none 0 0,.slice none 0 0] 43 (0,0))) (hlo:w.heap.size≤R) (hk:SlI w kv ks) (h3:pS (fun k=>WA.heap.size≤k) WA.heap.size w1 bv cs t.brs) (h4:aA WA w1):eL w n R w1.heap.size kv bv cs ks t.brs (w1.alloc (.cells #[kv,bv] 43)):=by
 have hRl:R<WA.heap.size:=(Array.getElem?_eq_some_iff.1 hR).1;have hs:=h4.size;have hs0:=hG.size
 exact {
  cop:=(h3.to hG.size (fun k hk hp=>⟨by omega,by omega,by omega⟩)).grew ((uX _).alloc _)
  roots:=SlI.mono hk ((hG.trans h4).alloc _)
  rOff:=fun k hk2=>by
   have h1:=sK hk hk2;exact⟨fun e=>by have h2:=(h3.brs.lt k e).1;omega,by omega,by omega,hkn k hk2⟩
  box:=aF rfl
  res:=uK (h4.alloc _) hR
  lo:=hlo
  lt:=by omega
  hn:=hn
  grew:=(hG.trans h4).alloc _ }
theorem eL.poke (h:eL w n R X rv bv cs rs l wr) {i j:Nat} (hi':i<l.length) (hj:j<6) {b':Br} {v' u:Value} (hc:∀ kv,cs[i]? = some (l[i].c kv)→(b'.c v').cells=(l[i].c kv).cells.set j u) (hk:SlI wr v' b'.kids) (ho:aJb (fun x=>x≠X∧x≠R∧n≤x) bv v') {B cap:Nat} (hbv:bv=.slice (some ⟨B,0,none⟩) l.length cap) :
  eL w n R X rv bv (cs.set i (b'.c v')) rs (l.set i b') (wr.setCell ⟨B,i*6+j,none⟩ u):=by
 have hi:i<cs.length:=by rw[h.cop.len];exact hi'
 have e1:=(h.cop.each i hi hi').1.1;have hBX:bv.ownBlock≠some X:=cR h.cop.brs h.box oH;have hBR:bv.ownBlock≠some R:=cR h.cop.brs h.res oH;have hXB:X≠B:=fun e=>hBX (by rw[hbv,e];rfl)
 have hRB:R≠B:=fun e=>hBR (by rw[hbv,e];rfl)
 have hB:w.heap.size≤B:=(h.cop.brs.lt B (by rw[hbv];rfl)).1;refine⟨h.cop.poke hi hi' hj ?_ rfl hk ho hbv,qT _ h.roots (fun e=>(h.rOff _ e).1 (by rw[hbv];rfl)),h.rOff,cG _ _ h.box hXB,cG _ _ h.res hRB,h.lo,h.lt,h.hn,h.grew.setCell hB _⟩;rw[hc cs[i].kv (by rw[List.getElem?_eq_getElem hi,← e1]),← e1]
theorem eL.old (h:eL w n R X rv bv cs rs l wr) {kv:Value} {ks:List Int} (hk:SlI w kv ks) (hkn:∀ k,blk kv=some k→n≤k):aJb (fun x=>x≠X∧x≠R∧n≤x) bv kv:=fun k hk2=>by
 have h1:=sK hk hk2;have hlo:=h.lo;have hlt:=h.lt;exact⟨fun e=>by have h2:=(h.cop.brs.lt k e).1;omega,by omega,by omega,hkn k hk2⟩
theorem eL.done (h:eL w n R X rv bv cs rs l wr) (x y:Value):aBn n ((wr.setCell ⟨R,0,none⟩ x).setCell ⟨R,1,none⟩ y) rv bv ⟨rs,l⟩∧aA w ((wr.setCell ⟨R,0,none⟩ x).setCell ⟨R,1,none⟩ y):=by
 have hne:=cR h.cop.brs h.res oH;have c1:=h.cop.aside ⟨R,0,none⟩ x hne (fun hp=>hp.2.1 rfl);have c2:=c1.aside ⟨R,1,none⟩ y hne (fun hp=>hp.2.1 rfl);have hn:=h.hn;exact⟨⟨qT _ (qT _ h.roots (fun e=>(h.rOff _ e).2.2.1 rfl)) (fun e=>(h.rOff _ e).2.2.1 rfl),fun k hk=>(h.rOff k hk).2.2.2,fun k hk=>by have:=(c2.brs.lt k hk).1;omega,cs,Rd.of_own c2.brs,c2.len,fun i k1 k2=>⟨(c2.each i k1 k2).1,fun k hk=>((c2.each i k1 k2).2 k hk).2.2.2⟩⟩,(h.grew.setCell h.lo _).setCell h.lo _⟩
end
def aWu (n:Nat) (t:Tr) (w:World) (e:Ending) (w':World):Prop:=∃ rv bv,e=.returned (.agg #[rv,bv])∧aBn n w' rv bv t∧aA w w'
theorem aWu.ok {n:Nat} {t:Tr} {w w':World} {e:Ending} (h:aWu n t w e w'):bDf t w e w':=by
 obtain⟨rv,bv,h1,h2,h3⟩:=h;exact⟨rv,bv,h1,h2.ok,h3⟩
theorem e_15 {p:Prop} (h:p:=by
 go_wp2_with fail;go_roundg (t.brs.length-(k+1))
 case measure=>omega
 case rel=>exact⟨k+1,_,by omega,by omega,by go_num,(show Aside _ from HN.out)⟩
):p:=h
theorem c_28 {p:Prop} (h:p:=by
 have h0z:=h_216;have hlm:k<(jO (jD p ks) k t.brs).length:=by rw[iV];exact hlt
 obtain⟨B,cap,kv,e,hlo,hBs,hkv,-,hfz,c0,-,-,-,-,c5⟩:=HC.out.cop.cells hlm;rw[iV] at e;injection e with e1 _ e2;subst e1 e2;rw[vD _ _ hlt hlm] at c0;obtain⟨Akv,nkv,ckv,ekv⟩:=(show ∃ A n c,kv=.slice A n c by obtain⟨A,c,e,-⟩:=SlI.open_ hkv;exact⟨A,_,c,e⟩)
 subst ekv;have f5:=hfz (k*6+5);have HSET:=uZ (fun hp=>HC.out.setAt HKV.out HKN.out hlt hp rfl);have HSAME:=uZ (show ¬ t.brs[k].id=p→jO (jD p ks) (k+1) t.brs=jO (jD p ks) k t.brs from fun h=>xE _ _ hlt (by unfold jD;rw[if_neg h]));clear hkv hfz hlm hlo;generalize t.brs[k]=y at c0 HSET HSAME;obtain⟨yi,yp,yl,yt,ym,yk⟩:=y;dsimp only at c0 HSET HSAME;by_cases hid:yi=p
 ·have hb1:(yi == p)=true:=by simpa using hid
  obtain⟨cs',hcs⟩:=HSET.out hid;have HN:=uZ hcs;clear hcs HSET HSAME hid HC;exact e_15
 ·have hb1:(yi == p)=false:=by simpa using hid
  have hsm:=HSAME.out hid;have HN:=uZ (hsm▸HC.out);clear hsm HSET HSAME hid HC;exact e_15
):p:=h
theorem eL.setAt {w wr:World} {n R X:Nat} {rv bv:Value} {cs:List BrC} {rs:List Int} {l:List Br} {k:Nat} {p:Int} {ks:List Int} {kv:Value} (h:eL w n R X rv bv cs rs (jO (jD p ks) k l) wr) (hk:SlI w kv ks) (hkn:∀ k,blk kv=some k→n≤k) (hkl:k<l.length) (hp:l[k].id=p) {B cap:Nat} (hbv:bv=.slice (some ⟨B,0,none⟩) l.length cap) :
  ∃ cs',eL w n R X rv bv cs' rs (jO (jD p ks) (k+1) l) (wr.setCell ⟨B,k*6+5,none⟩ kv):=by
 have hlm:k<(jO (jD p ks) k l).length:=by rw[iV];exact hkl
 have e:=vD (jD p ks) l hkl hlm;have h1:=h.poke (i:=k) (j:=5) (b':={ l[k] with kids:=ks }) (v':=kv) (u:=kv) hlm b_53 (fun v _=>by rw[e];rfl) (SlI.mono hk h.grew) (h.old hk hkn) (by rw[iV];exact hbv);rw[show({ l[k] with kids:=ks }:Br)=jD p ks l[k] by unfold jD;rw[if_pos hp],xF _ l hkl] at h1;exact⟨_,h1⟩
theorem lS (n:Nat) (t:Tr) (p:Int) (ks:List Int) (rv bv kv:Value) (w:World) (hr:SlI w rv t.roots) (hv:bQ w bv t.brs) (hf:cF t.brs) (hrl:t.roots.length≤1000000) (hk:SlI w kv ks) (hn:n≤w.heap.size) (hkn:∀ k,blk kv=some k→n≤k) :
  Calls Tryz.prog 152 #[.agg #[rv,bv],.int .i64 p,kv] w (aWu n (iD t p ks) w):=by
 have KC:=uZ (fun W (hW:aA w W)=>uP t rv bv W (hr.mono hW) (hv.mono hW) hf hrl);have HKV:=uZ hk;have HKN:=uZ hkn;have HNW:=uZ hn;have hfl:=hf.1;obtain⟨Ar,cr,rfl,-⟩:=SlI.open_ hr;obtain⟨Ab,cb,rfl,-⟩:=bQ.open_ hv;obtain⟨Ak,ck,rfl,-⟩:=SlI.open_ hk;clear hr hv hf hrl hk hkn hn;have GA:=h_56;have hRA:=h_36;go_enter Tryz.func152,Tryz.ntmps152;go_wp2_with fail;generalize (w.alloc (.cells #[.slice Ar t.roots.length cr,.slice Ab t.brs.length cb] 43)).alloc (.cells #[.slice none 0 0,.slice none 0 0] 43)=WA at hRA GA ⊢;have HRA:=uZ hRA;clear hRA;refine(KC.out _ GA.out).mono ?_;rintro e w1 ⟨r1,b1,cs,rfl,h1,h2,h3,h4⟩;have HB3:=uZ h3;have HB4:=uZ h4;have HB1:=uZ h1;have HB2:=uZ h2;obtain⟨A1,c1,rfl,-⟩:=SlI.open_ h1;obtain⟨A2,c2,rfl⟩:=aJ h3.brs;clear h1 h2 h3 h4 KC;dsimp only;by_cases hp:p=0
 ·have hpb:(p == 0)=true:=by simpa using hp
  have hst:=eL.start2 HNW.out HKN.out GA.out HRA.out b_53 HKV.out HB3.out HB4.out;have HST:=uZ (show eL w n (w.heap.size+1) w1.heap.size (.slice Ak ks.length ck) (.slice A2 t.brs.length c2) cs ks (jO (jD p ks) 0 t.brs) (w1.alloc (.cells #[.slice Ak ks.length ck,.slice A2 t.brs.length c2] 43)) by rw[xD];exact hst);have HP:=uZ hp;clear hp hst HRA GA HB1 HB2 HB3 HB4;go_wp2_with fail;generalize w1.heap.size=X at HST ⊢;generalize w1.alloc (.cells #[.slice Ak ks.length ck,.slice A2 t.brs.length c2] 43)=WL at HST ⊢;go_loopg [8] t.brs.length (fun gg s8 wr=>∃(k:Nat) (cs:List BrC),k≤t.brs.length∧t.brs.length-k≤gg∧s8=.int .i64 k∧Aside (eL w n (w.heap.size+1) X (.slice Ak ks.length ck) (.slice A2 t.brs.length c2) cs ks (jO (jD p ks) k t.brs) wr))
  case atStart=>exact⟨0,_,by omega,by omega,rfl,(show Aside _ from HST.out)⟩
  case round =>
   clear HST;obtain⟨k,cs,hkl,hgk,rfl,HC⟩:=hrel;obtain⟨x0,x1,-,-⟩:=HC.out.cells;by_cases hlt:k<t.brs.length
   ·have hltz:(k:Int)<(t.brs.length:Int):=by omega
    exact c_28
   ·have hltz:¬ (k:Int)<(t.brs.length:Int):=by omega
    obtain rfl:k=t.brs.length:=by omega
    obtain⟨q0,q1,z0,z1⟩:=HC.out.resCells;have hd:=HC.out.done (.slice Ak ks.length ck) (.slice A2 t.brs.length c2);rw[aCq] at hd;have HD:=uZ hd;clear hd HC;go_wp2_with fail;obtain⟨p0,p1⟩:=aK (v0:=.slice Ak ks.length ck) (v1:=(.slice A2 t.brs.length c2)) q0 q1;refine bodyPost_ret (v:=.agg #[.slice Ak ks.length ck,.slice A2 t.brs.length c2]) (by simp[results,Tryz.results152,go_sem,p0,p1]) rfl ?_;refine⟨_,_,rfl,?_,HD.out.2⟩;have h:=HD.out.1;unfold iD;rw[if_pos HP.out];exact h
 ·have hpb:(p == 0)=false:=by simpa using hp
  have hst:=eL.start HNW.out GA.out HRA.out b_53 HB1.out HB2.out HB3.out HB4.out;have HST:=uZ (show eL w n (w.heap.size+1) w1.heap.size (.slice A1 t.roots.length c1) (.slice A2 t.brs.length c2) cs t.roots (jO (jD p ks) 0 t.brs) (w1.alloc (.cells #[.slice A1 t.roots.length c1,.slice A2 t.brs.length c2] 43)) by rw[xD];exact hst);have HP:=uZ hp;clear hp hst HRA GA HB1 HB2 HB3 HB4;go_wp2_with fail;generalize w1.heap.size=X at HST ⊢;generalize w1.alloc (.cells #[.slice A1 t.roots.length c1,.slice A2 t.brs.length c2] 43)=WL at HST ⊢;go_loopg [8] t.brs.length (fun gg s8 wr=>∃(k:Nat) (cs:List BrC),k≤t.brs.length∧t.brs.length-k≤gg∧s8=.int .i64 k∧Aside (eL w n (w.heap.size+1) X (.slice A1 t.roots.length c1) (.slice A2 t.brs.length c2) cs t.roots (jO (jD p ks) k t.brs) wr))
  case atStart=>exact⟨0,_,by omega,by omega,rfl,(show Aside _ from HST.out)⟩
  case round =>
   clear HST;obtain⟨k,cs,hkl,hgk,rfl,HC⟩:=hrel;obtain⟨x0,x1,-,-⟩:=HC.out.cells;by_cases hlt:k<t.brs.length
   ·have hltz:(k:Int)<(t.brs.length:Int):=by omega
    exact c_28
   ·have hltz:¬ (k:Int)<(t.brs.length:Int):=by omega
    obtain rfl:k=t.brs.length:=by omega
    obtain⟨q0,q1,z0,z1⟩:=HC.out.resCells;have hd:=HC.out.done (.slice A1 t.roots.length c1) (.slice A2 t.brs.length c2);rw[aCq] at hd;have HD:=uZ hd;clear hd HC;go_wp2_with fail;obtain⟨p0,p1⟩:=aK (v0:=.slice A1 t.roots.length c1) (v1:=(.slice A2 t.brs.length c2)) q0 q1;refine bodyPost_ret (v:=.agg #[.slice A1 t.roots.length c1,.slice A2 t.brs.length c2]) (by simp[results,Tryz.results152,go_sem,p0,p1]) rfl ?_;refine⟨_,_,rfl,?_,HD.out.2⟩;have h:=HD.out.1;unfold iD;rw[if_neg HP.out];exact h
theorem iK (t:Tr) (p:Int) (ks:List Int) (rv bv kv:Value) (w:World) (hr:SlI w rv t.roots) (hv:bQ w bv t.brs) (hf:cF t.brs) (hrl:t.roots.length≤1000000) (hk:SlI w kv ks) :
  Calls Tryz.prog 152 #[.agg #[rv,bv],.int .i64 p,kv] w (bDf (iD t p ks) w):=(lS 0 t p ks rv bv kv w hr hv hf hrl hk (Nat.zero_le _) (fun _ _=>Nat.zero_le _)).mono fun _ _ h=>h.ok
def wP (u b:Br):Br:=if b.id=u.id then { u with kids:=b.kids } else b
def chG (t:Tr) (u:Br):Tr:=⟨t.roots,t.brs.map (wP u)⟩
theorem eL.field {w wr:World} {n R X:Nat} {rv bv:Value} {cs:List BrC} {rs:List Int} {l:List Br} (h:eL w n R X rv bv cs rs l wr) {i j:Nat} {b b':Br} {kv u:Value} (hb:l[i]? = some b) (hc0:cs[i]? = some (b.c kv)) (hj:j<6) (hc:(b'.c kv).cells=(b.c kv).cells.set j u) (hk:b'.kids=b.kids) {B nn cap:Nat} (hbv:bv=.slice (some ⟨B,0,none⟩) nn cap) (hn:nn=l.length) :
  eL w n R X rv bv (cs.set i (b'.c kv)) rs (l.set i b') (wr.setCell ⟨B,i*6+j,none⟩ u)∧(l.set i b')[i]? = some b'∧(cs.set i (b'.c kv))[i]? = some (b'.c kv):=by
 obtain⟨hi,e1⟩:=List.getElem?_eq_some_iff.1 hb;obtain⟨hi2,e2⟩:=List.getElem?_eq_some_iff.1 hc0;obtain⟨h1,h2⟩:=h.cop.each i hi2 hi;have hk2:=h1.2;have hkv:cs[i].kv=kv:=by rw[e2];rfl
 rw[hkv] at hk2 h2;rw[e1] at hk2;refine⟨h.poke hi hj (fun v hv=>?_) (by rw[hk];exact hk2) h2 (by rw[hbv,hn]),by simp[hi],by simp[hi2]⟩;rw[e1] at hv ⊢;rw[hc0] at hv;injection hv with hv;rw[hc,hv]
theorem eL.unitAt {w wr:World} {n R X:Nat} {rv bv:Value} {cs:List BrC} {rs:List Int} {l:List Br} {k:Nat} {u:Br} (h:eL w n R X rv bv cs rs (jO (wP u) k l) wr) (hkl:k<l.length) (hp:l[k].id=u.id) {B cap:Nat} (hbv:bv=.slice (some ⟨B,0,none⟩) l.length cap) :
  ∃ cs',eL w n R X rv bv cs' rs (jO (wP u) (k+1) l) (((((wr.setCell ⟨B,k*6,none⟩ (.int .i64 u.id)).setCell ⟨B,k*6+1,none⟩ (.int .i64 u.parent)).setCell ⟨B,k*6+2,none⟩ (.int .i64 u.level)).setCell ⟨B,k*6+3,none⟩ (.string u.title)).setCell ⟨B,k*6+4,none⟩ (.string u.mark)):=by
 have hlm:k<(jO (wP u) k l).length:=by rw[iV];exact hkl
 have hcl:k<cs.length:=by rw[h.cop.len];exact hlm
 have l0:=aLv (wP u) l hkl
 have c0:cs[k]? = some (l[k].c cs[k].kv):=by
  rw[List.getElem?_eq_getElem hcl];have:=(h.cop.each k hcl hlm).1.1;rw[vD _ _ hkl hlm] at this;exact congrArg some this
 have hnx:(jO (wP u) k l).set k { u with kids:=l[k].kids }=jO (wP u) (k+1) l:=by
  rw[← xF (wP u) l hkl]
  congr 1
  unfold wP;rw[if_pos hp]
 rw[← hnx];have h0:=h;clear h hnx hlm;generalize cs[k].kv=kv at c0;generalize l[k]=b at l0 c0 hp ⊢;have hLn:l.length=(jO (wP u) k l).length:=(iV _ _ _).symm;generalize jO (wP u) k l=L at l0 h0 hLn ⊢;obtain⟨h1,l1,c1⟩:=eL.field (h:=h0) (j:=0) (b':={ b with id:=u.id }) (u:=.int .i64 u.id) l0 c0 b_53 rfl rfl hbv (by simp[hLn]);obtain⟨h2,l2,c2⟩:=eL.field (h:=h1) (j:=1) (b':={ b with id:=u.id,parent:=u.parent }) (u:=.int .i64 u.parent) l1 c1 b_53 rfl rfl hbv (by simp[hLn]);obtain⟨h3,l3,c3⟩:=eL.field (h:=h2) (j:=2) (b':={ b with id:=u.id,parent:=u.parent,level:=u.level }) (u:=.int .i64 u.level) l2 c2 b_53 rfl rfl hbv (by simp[hLn]);obtain⟨h4,l4,c4⟩:=eL.field (h:=h3) (j:=3) (b':={ b with id:=u.id,parent:=u.parent,level:=u.level,title:=u.title }) (u:=.string u.title) l3 c3 b_53 rfl rfl hbv (by simp[hLn]);obtain⟨h5,l5,c5⟩:=eL.field (h:=h4) (j:=4) (b':={ b with id:=u.id,parent:=u.parent,level:=u.level,title:=u.title,mark:=u.mark }) (u:=.string u.mark) l4 c4 b_53 rfl rfl hbv (by simp[hLn]);simp only [List.set_set,Nat.add_zero] at h5;exact⟨_,h5⟩
theorem eL.later {w wr W:World} {n R X:Nat} {rv bv:Value} {cs:List BrC} {rs:List Int} {l:List Br} (h:eL w n R X rv bv cs rs l wr) (g:aA wr W):eL w n R X rv bv cs rs l W :=
 ⟨h.cop.grew g,h.roots.mono g,h.rOff,uK g h.box,uK g h.res,h.lo,h.lt,h.hn,h.grew.trans g⟩
theorem bCr:(66:Nat)≠64:=by decide
theorem bW {W:World} {Y:Nat} {ui up ul:Int} {ut um:ByteArray} (h:W.heap[Y]? = some (.cells #[.int .i64 ui,.int .i64 up,.int .i64 ul,.string ut,.string um] 64 (0,0))):W.cell? ⟨Y,0,none⟩=some (.int .i64 ui)∧W.cell? ⟨Y,1,none⟩=some (.int .i64 up)∧W.cell? ⟨Y,2,none⟩=some (.int .i64 ul)∧W.cell? ⟨Y,3,none⟩=some (.string ut)∧W.cell? ⟨Y,4,none⟩=some (.string um):=by
 simp[World.cell?,h]
theorem aMt {W:World} {Y B i0 i1 i2 i3 i4:Nat} {v0 v1 v2 v3 v4:Value} {o:Obj} (h:W.heap[Y]? = some o) (hne:Y≠B):(((((W.setCell ⟨B,i0,none⟩ v0).setCell ⟨B,i1,none⟩ v1).setCell ⟨B,i2,none⟩ v2).setCell ⟨B,i3,none⟩ v3).setCell ⟨B,i4,none⟩ v4).heap[Y]? = some o :=
 cG _ _ (cG _ _ (cG _ _ (cG _ _ (cG _ _ h hne) hne) hne) hne) hne
theorem fR (t:Tr) (ui up ul:Int) (ut um:ByteArray) (rv bv:Value) (w:World) (hr:SlI w rv t.roots) (hv:bQ w bv t.brs) (hf:cF t.brs) (hrl:t.roots.length≤1000000) :
  Calls Tryz.prog 156 #[.agg #[rv,bv],.agg #[.int .i64 ui,.int .i64 up,.int .i64 ul,.string ut,.string um]] w (bDf (chG t ⟨ui,up,ul,ut,um,[]⟩) w):=by
 have KC:=uZ (fun W (hW:aA w W)=>uP t rv bv W (hr.mono hW) (hv.mono hW) hf hrl);have hfl:=hf.1;obtain⟨Ar,cr,rfl,-⟩:=SlI.open_ hr;obtain⟨Ab,cb,rfl,-⟩:=bQ.open_ hv;clear hr hv hf hrl;have GA:=uZ ((((uX w).alloc (.cells #[.slice Ar t.roots.length cr,.slice Ab t.brs.length cb] 43)).alloc (.cells #[.int .i64 ui,.int .i64 up,.int .i64 ul,.string ut,.string um] 64)).alloc (.cells #[.slice none 0 0,.slice none 0 0] 43));have hRA:=aF (a:=(w.alloc (.cells #[.slice Ar t.roots.length cr,.slice Ab t.brs.length cb] 43)).alloc (.cells #[.int .i64 ui,.int .i64 up,.int .i64 ul,.string ut,.string um] 64)) (X:=w.heap.size+1+1) (p:=(.cells #[.slice none 0 0,.slice none 0 0] 43)) b_54;have hUA:=uK ((uX ((w.alloc (.cells #[.slice Ar t.roots.length cr,.slice Ab t.brs.length cb] 43)).alloc (.cells #[.int .i64 ui,.int .i64 up,.int .i64 ul,.string ut,.string um] 64))).alloc (.cells #[.slice none 0 0,.slice none 0 0] 43)) (aF (a:=w.alloc (.cells #[.slice Ar t.roots.length cr,.slice Ab t.brs.length cb] 43)) (X:=w.heap.size+1) (p:=(.cells #[.int .i64 ui,.int .i64 up,.int .i64 ul,.string ut,.string um] 64)) b_54);have HU:=uZ hUA;clear hUA;go_enter Tryz.func156,Tryz.ntmps156;go_wp2_with fail;generalize ((w.alloc (.cells #[.slice Ar t.roots.length cr,.slice Ab t.brs.length cb] 43)).alloc (.cells #[.int .i64 ui,.int .i64 up,.int .i64 ul,.string ut,.string um] 64)).alloc (.cells #[.slice none 0 0,.slice none 0 0] 43)=WA at hRA GA HU ⊢;have HRA:=uZ hRA;clear hRA;refine(KC.out _ GA.out).mono ?_;rintro e w1 ⟨r1,b1,cs,rfl,h1,h2,h3,h4⟩;have HB3:=uZ h3;have HB4:=uZ h4;have HB1:=uZ h1;have HB2:=uZ h2;obtain⟨A1,c1,rfl,-⟩:=SlI.open_ h1;obtain⟨A2,c2,rfl⟩:=aJ h3.brs;clear h1 h2 h3 h4 KC;dsimp only;have hst:=eL.start (Nat.zero_le _) GA.out HRA.out b_53 HB1.out HB2.out HB3.out HB4.out;have HST:=uZ (show eL w 0 (w.heap.size+1+1) w1.heap.size (.slice A1 t.roots.length c1) (.slice A2 t.brs.length c2) cs t.roots (jO (wP ⟨ui,up,ul,ut,um,[]⟩) 0 t.brs) (w1.alloc (.cells #[.slice A1 t.roots.length c1,.slice A2 t.brs.length c2] 43)) by rw[xD];exact hst);have HUB:=uZ (uK (HB4.out.alloc (.cells #[.slice A1 t.roots.length c1,.slice A2 t.brs.length c2] 43)) HU.out);clear hst HRA GA HB1 HB2 HB3 HB4;go_wp2_with fail;generalize w1.heap.size=X at HST ⊢;generalize w1.alloc (.cells #[.slice A1 t.roots.length c1,.slice A2 t.brs.length c2] 43)=WL at HST HUB ⊢;go_loopg [6] t.brs.length (fun gg s6 wr=>∃(k:Nat) (cs:List BrC),k≤t.brs.length∧t.brs.length-k≤gg∧s6=.int .i64 k∧Aside (eL w 0 (w.heap.size+1+1) X (.slice A1 t.roots.length c1) (.slice A2 t.brs.length c2) cs t.roots (jO (wP ⟨ui,up,ul,ut,um,[]⟩) k t.brs) wr)∧Aside (wr.heap[w.heap.size+1]? = some (.cells #[.int .i64 ui,.int .i64 up,.int .i64 ul,.string ut,.string um] 64 (0,0))))
 case atStart=>exact⟨0,_,by omega,by omega,rfl,(show Aside _ from HST.out),(show Aside _ from HUB.out)⟩
 case round =>
  clear HST;obtain⟨k,cs,hkl,hgk,rfl,HC,GWR⟩:=hrel;obtain⟨x0,x1,-,-⟩:=HC.out.cells;by_cases hlt:k<t.brs.length
  ·have hltz:(k:Int)<(t.brs.length:Int):=by omega
   have h0z:=h_216;have hlm:k<(jO (wP ⟨ui,up,ul,ut,um,[]⟩) k t.brs).length:=by rw[iV];exact hlt
   obtain⟨B,cap,kv,e,hlo,hBs,hkv,-,hfz,c0,c1',c2',c3,c4,-⟩:=HC.out.cop.cells hlm;rw[iV] at e;injection e with e1 _ e2;subst e1 e2;rw[vD _ _ hlt hlm] at c0 c1' c2' c3 c4;have f0:=hfz (k*6);have f1:=hfz (k*6+1);have f2:=hfz (k*6+2);have f3:=hfz (k*6+3);have f4:=hfz (k*6+4);have HUC:=uZ GWR.out;obtain⟨u0,u1,u2,u3,u4⟩:=bW GWR.out;have hUB:w.heap.size+1≠B:=fun e=>cR HC.out.cop.brs GWR.out bCr (by rw[e];rfl)
   have HUN:=uZ hUB;have HSET:=uZ (fun W (hg:aA wr W) hp=>(HC.out.later hg).unitAt hlt hp rfl);have HSAME:=uZ (show ¬ t.brs[k].id=ui→jO (wP ⟨ui,up,ul,ut,um,[]⟩) (k+1) t.brs=jO (wP ⟨ui,up,ul,ut,um,[]⟩) k t.brs from fun h=>xE _ _ hlt (by unfold wP;rw[if_neg h]));clear hkv hfz hlm hlo;generalize t.brs[k]=y at c0 c1' c2' c3 c4 HSET HSAME;obtain⟨yi,yp,yl,yt,ym,yk⟩:=y;dsimp only at c0 c1' c2' c3 c4 HSET HSAME;by_cases hid:yi=ui
   ·have hb1:(yi == ui)=true:=by simpa using hid
    go_wp2_with fail;go_quiet (fail);obtain⟨cs',hcs⟩:=HSET.out (wr.drewN nq) ((uX _).drewN _) hid;have HN:=uZ hcs;clear hcs HSET HSAME hid HC;go_wp2_with fail;go_roundg (t.brs.length-(k+1))
    case measure=>omega
    case rel=>exact⟨k+1,_,by omega,by omega,by go_num,(show Aside _ from HN.out),(show Aside _ from aMt (uK ((uX wr).drewN nq) HUC.out) HUN.out)⟩
   ·have hb1:(yi == ui)=false:=by simpa using hid
    have hsm:=HSAME.out hid;have HN:=uZ (hsm▸HC.out);clear hsm HSET HSAME hid HC;go_wp2_with fail;go_quiet (fail);go_wp2_with fail;go_roundg (t.brs.length-(k+1))
    case measure=>omega
    case rel=>exact⟨k+1,_,by omega,by omega,by go_num,(show Aside _ from HN.out.later ((uX _).drewN _)),(show Aside _ from uK ((uX wr).drewN nq) HUC.out)⟩
  ·have hltz:¬ (k:Int)<(t.brs.length:Int):=by omega
   obtain rfl:k=t.brs.length:=by omega
   obtain⟨q0,q1,z0,z1⟩:=HC.out.resCells;have hd:=HC.out.done (.slice A1 t.roots.length c1) (.slice A2 t.brs.length c2);rw[aCq] at hd;have HD:=uZ hd;clear hd HC;go_wp2_with fail;obtain⟨p0,p1⟩:=aK (v0:=.slice A1 t.roots.length c1) (v1:=(.slice A2 t.brs.length c2)) q0 q1;refine bodyPost_ret (v:=.agg #[.slice A1 t.roots.length c1,.slice A2 t.brs.length c2]) (by simp[results,Tryz.results156,go_sem,p0,p1]) rfl ?_;refine⟨_,_,rfl,?_,HD.out.2⟩;have h:=HD.out.1;exact h.ok
theorem aKd {w W:World} {r b:Value} (o:Opn) (g:aA (((w.alloc (.cells [r,b].toArray 43)).alloc (.cells o.cells.toArray 26)).alloc (.cells [.slice none 0 0,.slice none 0 0].toArray 43)) W):(W.cell? ⟨w.heap.size,0,none⟩=some (r)∧W.cell? ⟨w.heap.size,1,none⟩=some (b)∧W.cell? ⟨w.heap.size+1,0,none⟩=some (.int .i64 o.id)∧W.cell? ⟨w.heap.size+1,1,none⟩=some (.int .i64 o.day)∧W.cell? ⟨w.heap.size+1,2,none⟩=some (.int .i64 o.kind)∧W.cell? ⟨w.heap.size+1,3,none⟩=some (.int .i64 o.unit)∧W.cell? ⟨w.heap.size+1,4,none⟩=some (.int .i64 o.parent)∧W.cell? ⟨w.heap.size+1,5,none⟩=some (.int .i64 o.before)∧W.cell? ⟨w.heap.size+1,6,none⟩=some (.int .i64 o.level)∧W.cell? ⟨w.heap.size+1,7,none⟩=some (.string o.title)∧W.cell? ⟨w.heap.size+1,8,none⟩=some (.string o.mark)∧W.cell? ⟨w.heap.size+1,9,none⟩=some (.int .i64 o.office)∧W.cell? ⟨w.heap.size+1,10,none⟩=some (.int .i64 o.acc)∧W.cell? ⟨w.heap.size+1,11,none⟩=some (.int .i64 o.num))∧W.heap[w.heap.size+1+1]? = some (.cells #[.slice none 0 0,.slice none 0 0] 43 (0,0)):=by
 have g2:aA ((w.alloc (.cells [r,b].toArray 43)).alloc (.cells o.cells.toArray 26)) W:=((uX _).alloc _).trans g;exact⟨aLz o g2,uK g (aF b_54)⟩
theorem cD (w:World) (o:Opn) (r b:Value) (W:World) (g:aA (((w.alloc (.cells [r,b].toArray 43)).alloc (.cells o.cells.toArray 26)).alloc (.cells [.slice none 0 0,.slice none 0 0].toArray 43)) W):(W.cell? ⟨w.heap.size,0,none⟩=some (r)∧W.cell? ⟨w.heap.size,1,none⟩=some (b)∧W.cell? ⟨w.heap.size+1,0,none⟩=some (.int .i64 o.id)∧W.cell? ⟨w.heap.size+1,1,none⟩=some (.int .i64 o.day)∧W.cell? ⟨w.heap.size+1,2,none⟩=some (.int .i64 o.kind)∧W.cell? ⟨w.heap.size+1,3,none⟩=some (.int .i64 o.unit)∧W.cell? ⟨w.heap.size+1,4,none⟩=some (.int .i64 o.parent)∧W.cell? ⟨w.heap.size+1,5,none⟩=some (.int .i64 o.before)∧W.cell? ⟨w.heap.size+1,6,none⟩=some (.int .i64 o.level)∧W.cell? ⟨w.heap.size+1,7,none⟩=some (.string o.title)∧W.cell? ⟨w.heap.size+1,8,none⟩=some (.string o.mark)∧W.cell? ⟨w.heap.size+1,9,none⟩=some (.int .i64 o.office)∧W.cell? ⟨w.heap.size+1,10,none⟩=some (.int .i64 o.acc)∧W.cell? ⟨w.heap.size+1,11,none⟩=some (.int .i64 o.num))∧W.heap[w.heap.size+1+1]? = some (.cells #[.slice none 0 0,.slice none 0 0] 43 (0,0)):=aKd o g
theorem cL {W:World} {R:Nat} (h:W.heap[R]? = some (.cells #[.slice none 0 0,.slice none 0 0] 43 (0,0))):W.cell? ⟨R,0,none⟩=some (.slice none 0 0)∧W.cell? ⟨R,1,none⟩=some (.slice none 0 0)∧W.frozen? ⟨R,0,none⟩=false∧W.frozen? ⟨R,1,none⟩=false:=by
 simp[World.cell?,World.frozen?,h]
theorem dM {w W:World} {R:Nat} {rv bv:Value} {t:Tr} {n:Int} (hR:W.heap[R]? = some (.cells #[.slice none 0 0,.slice none 0 0] 43 (0,0))) (hlo:w.heap.size≤R) (hG:aA w W) (h:dF W rv bv t):bU (t,n) w (.returned (.tuple #[.agg #[rv,bv],.int .i64 n])) ((W.setCell ⟨R,0,none⟩ rv).setCell ⟨R,1,none⟩ bv) :=
 ⟨rv,bv,rfl,h.setT hR,(hG.setCell hlo _).setCell hlo _⟩
theorem bK {W:World} {rv bv:Value} {t:Tr} (h:dF W rv bv t):(∃ A n c,rv=.slice A n c)∧∃ A n c,bv=.slice A n c:=by
 obtain⟨A,c,e,-⟩:=SlI.open_ h.1;obtain⟨A',c',e',-⟩:=bQ.open_ h.2;exact⟨⟨A,_,c,e⟩,A',_,c',e'⟩
theorem aNu {t:Tr} (h:bP t.brs) {fb:Br} (hb:fb∈t.brs) (f:Br→Br) (hf:∀ b,(f b).id=b.id∧(f b).kids=b.kids):chG t (f fb)=jX t fb.id f:=by
 unfold chG jX
 congr 1
 refine List.map_congr_left fun b hm=>?_
 unfold wP;rw[(hf fb).1];by_cases e:b.id=fb.id
 ·have:=lD h hm hb e
  subst this;rw[if_pos rfl,if_pos rfl];have h1:=(hf b).1;have h2:=(hf b).2;cases hfb:f b;rw[hfb] at h1 h2;simp only at h1 h2;rw[← h1,← h2]
 ·rw[if_neg e,if_neg e]
def mZ (t:Tr) (p n:Int):Int:=if p=0 then(if n=1 then 0 else 18) else match aE t.brs p with
 | none=>7
 | some b=>if fX b.level n=true then 0 else 18
theorem nK (t:Tr) (p n:Int) (rv bv:Value) (w:World) (hr:SlI w rv t.roots) (hv:bQ w bv t.brs):Calls Tryz.prog 148 #[.agg #[rv,bv],.int .i64 p,.int .i64 n] w fun e w'=>e=.returned (.int .i64 (mZ t p n))∧aA w w':=by
 have kF:=fun W (hW:aA w W)=>aR t.brs p rv bv W (hv.mono hW)
 obtain⟨Ar,cr,rfl,-⟩:=SlI.open_ hr;obtain⟨Ab,cb,rfl,-⟩:=bQ.open_ hv;clear hr hv;unfold mZ;by_cases hp:p=0
 ·have hpb:(p == 0)=true:=by simpa using hp
  rw[if_pos hp];by_cases hn:n=1
  ·have hnb:(n != 1)=false:=by simpa using hn
   rw[if_pos hn];clear hp hn kF;go_enter Tryz.func148,Tryz.ntmps148;exact c_127
  ·have hnb:(n != 1)=true:=by simpa using hn
   rw[if_neg hn];clear hp hn kF;go_enter Tryz.func148,Tryz.ntmps148;exact c_127
 ·have hpb:(p == 0)=false:=by simpa using hp
  rw[if_neg hp];clear hp
  cases hb:aE t.brs p with
  | none =>
   rw[hb] at kF;unfold aY at kF;dsimp only [Option.getD_none,Option.isSome_none,br0] at kF;have KF:=uZ kF;clear kF hb;go_enter Tryz.func148,Tryz.ntmps148;go_wp2_with fail;refine(KF.out _ ((uX w).alloc _)).mono ?_;rintro e w1 ⟨rfl,g1⟩;have G1:=h_221;clear g1;dsimp only;go_wp2;go_ret;exact⟨rfl,G1.out.alloc _⟩
  | some b =>
   obtain⟨fi,fp,fl,ft,fm,fk⟩:=b;rw[hb] at kF;unfold aY at kF;dsimp only [Option.getD_some,Option.isSome_some] at kF ⊢;have KF:=uZ kF;have KT:=uZ (fun W=>aKn fl n W);clear kF hb;generalize fX fl n=q at KT ⊢;go_enter Tryz.func148,Tryz.ntmps148;go_wp2_with fail;refine(KF.out _ ((uX w).alloc _)).mono ?_;rintro e w1 ⟨rfl,g1⟩;have G1:=h_221;clear g1;dsimp only;go_wp2_with fail;refine(KT.out _).mono ?_;rintro e w2 ⟨rfl,rfl⟩;dsimp only;cases q
   ·go_wp2
    go_ret;exact⟨rfl,G1.out.alloc _⟩
   ·go_wp2
    go_ret;exact⟨rfl,G1.out.alloc _⟩
def aZp (t:Tr) (S:List Int) (b:Br):Br:={ b with kids:=rL t S b.id }
def bDb (t:Tr) (S:List Int):List Br:=t.brs.filter fun b=>decide (b.id∈S)
def aZg (t:Tr) (S:List Int):Tr:=⟨rL t S 0,(bDb t S).map (aZp t S)⟩
section
variable {t:Tr} {S:List Int}
end
end Go.Proofs.YtdochkemaiokfaaGreat







