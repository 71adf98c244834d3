/- Lemmas on what the functions of the program and of the library compute: RA1, RE1, App4, Bk1, RT1, TM1, PlainZ, PlainMv, PlainBl. The conditions stand at each. -/
import Derived.Test.YtdochkemaiokfaaGreatQ2
import Derived.Test.YtdochkemaiokfaaGreatQ1
import Derived.Test.YtdochkemaiokfaaGreatQ3
import Derived.Test.YtdochkemaiokfaaGreatQ4
import Derived.Test.YtdochkemaiokfaaGreatQ7
import Derived.Deep.RegionHeld3
set_option maxHeartbeats 16000000
set_option maxRecDepth 100000
set_option linter.all false
namespace Go.Proofs.YtdochkemaiokfaaGreat
open Go.RowKit
theorem e_18 {p:Prop} (h:p:=by
 go_wp2
 go_round
 case rel=>exact⟨k+1,by omega,by go_num,(show Aside _ from Hy.out)⟩
 case measure=>simp[intOf];omega
):p:=h
theorem c_97 {p:Prop} (h:p:=by
 clear HBAD HS HOK M;exact e_18
):p:=h
theorem c_121 {p:Prop} (h:p:=by
 go_enter Tryz.func81,Tryz.ntmps81;go_wp2;go_ret;exact⟨rfl,uX w⟩
):p:=h
theorem bDt (l:List UInt8) (j:Nat):Lib.occAt l [32,32] j=true↔l[j]? = some 32∧l[j+1]? = some 32:=by
 unfold Lib.occAt
 cases h:l.drop j with
 | nil =>
  have h1:l[j]? = none:=by rw[List.getElem?_eq_none_iff];have:=congrArg List.length h;simp at this;omega
  simp[h1]
 | cons a t =>
  have h1:l[j]? = some a:=by have:=congrArg (·[0]?) h;simpa using this
  have h2:l[j+1]? = t[0]?:=by have:=congrArg (·[1]?) h;simpa using this
  rw[h1,h2]
  cases t with
  | nil=>simp[List.isPrefixOf]
  | cons b u =>
   simp only [List.isPrefixOf,Bool.and_true,Bool.and_eq_true,beq_iff_eq,List.getElem?_cons_zero,Option.some.injEq];exact⟨fun⟨x,y⟩=>⟨x.symm,y.symm⟩,fun⟨x,y⟩=>⟨x.symm,y.symm⟩⟩
def okB (l:List UInt8) (i:Nat):Prop:=∀ c,l[i]? = some c→32≤c.toNat∧c.toNat≤126∧¬ (0<i∧c=32∧l[i-1]? = some 32)
theorem aLs (l:List UInt8):(!Lib.contains l [32,32] && iB 32 126 l)=true↔∀ i,i<l.length→okB l i:=by
 unfold Lib.contains iB;rw[Bool.and_eq_true,Bool.not_eq_true',decide_eq_false_iff_not,List.all_eq_true];constructor
 ·rintro ⟨h1,h2⟩ i hi c hc
  have hm:=h2 c (List.mem_of_getElem? hc);rw[Bool.and_eq_true,decide_eq_true_eq,decide_eq_true_eq] at hm;refine⟨hm.1,hm.2,?_⟩;rintro ⟨h3,rfl,h5⟩;rcases Lib.index_spec l [32,32] with ⟨_,h6⟩|⟨j,h6,_⟩
  ·have:=h6 (i-1) b_53
   rw[(bDt l (i-1)).2 ⟨h5,by rw[Nat.sub_add_cancel h3];exact hc⟩] at this;cases this
  ·rw[h6] at h1;omega
 ·intro h
  refine⟨?_,fun c hc=>?_⟩
  ·rcases Lib.index_spec l [32,32] with ⟨h6,_⟩|⟨j,h6,h7,h8,_⟩
   ·omega
   ·obtain⟨h9,h10⟩:=(bDt l j).1 h8
    have hj:j+1<l.length:=(List.getElem?_eq_some_iff.1 h10).1;exact absurd ⟨by omega,rfl,by simpa using h9⟩ (h (j+1) hj 32 h10).2.2
  ·obtain⟨i,hi,rfl⟩:=List.mem_iff_getElem.1 hc
   have:=h i hi l[i] (List.getElem?_eq_getElem hi);rw[Bool.and_eq_true,decide_eq_true_eq,decide_eq_true_eq];exact⟨this.1,this.2.1⟩
theorem aDq (s:ByteArray) (k:Nat) (h:k<s.size):s.data.toList[k]? = some s[k]:=by
 rw[List.getElem?_eq_getElem (by rw[fM];exact h)];rfl
theorem bBs (c:UInt8):c=32↔(c.toNat:Int)=32:=by
 rw[← UInt8.toNat_inj];have h2:(32:UInt8).toNat=32:=rfl;omega
theorem aCb (s:ByteArray) (w:World):Calls Tryz.prog 81 #[.string s] w fun e w'=>e=.returned (.bool (fB s.data.toList))∧aA w w':=by
 have hsd:=fM s;by_cases h0:s.size<1
 ·have hN:fB s.data.toList=false:=by simp only [fB,hsd];rw[decide_eq_false b_53];rfl
  rw[hN];have h0':(s.size:Int)<1:=by omega
  clear hsd hN;exact c_121
 have h0':=h_188;by_cases h1:64<s.size
 ·have hN:fB s.data.toList=false:=by simp only [fB,hsd];rw[decide_eq_false b_53];rfl
  rw[hN];have h1':(64:Int)<(s.size:Int):=by omega
  clear hsd hN;exact c_121
 have h1':=h_166;have hz0:0<s.size:=by omega
 have hs64:s.size≤64:=by omega
 have hz1:s.size-1<s.size:=by omega
 have hN:=h_34;rw[hN];have hi1:(0:Int)≤(s.size:Int)-1:=by omega
 have hi2:(s.size:Int)-1<(s.size:Int):=by omega
 have hrest:=aLs s.data.toList;rw[hsd] at hrest;generalize (!Lib.contains s.data.toList [32,32] && iB 32 126 s.data.toList)=Q at hrest;have HRE:=uZ hrest;clear hsd hN h0 h1 hrest
 cases a1:((s[0].toNat:Int) == 32) with
 | true =>
  exact c_121
 | false =>
 cases a2:((s[s.size-1].toNat:Int) == 32) with
 | true =>
  exact c_121
 | false =>
 go_enter Tryz.func81,Tryz.ntmps81;go_wp2
 go_loop [3] (fun i=>∃ k:Nat,k≤s.size∧i=.int .i64 k∧Aside (∀ j,j<k→okB s.data.toList j)) (fun i=>s.size-(intOf i).toNat)
 case atStart=>exact⟨0,by omega,rfl,(show Aside _ from fun j h=>absurd h (Nat.not_lt_zero _))⟩
 case round =>
  obtain⟨k,hk,rfl,M⟩:=hrel;by_cases hlt:k<s.size
  case neg =>
   have hltz:¬ (k:Int)<(s.size:Int):=by omega
   have hQ:Q=true:=HRE.out.2 (fun i hi=>M.out i b_53);subst hQ;exact c_129
  have hltz:(k:Int)<(s.size:Int):=by omega
  have h0z:=h_216
  have HBAD:RowKit.Hid (¬ okB s.data.toList k→Q=false):=fun h=>by
   rw[← Bool.not_eq_true,HRE.out];exact fun h2=>h (h2 k hlt)
  have HS:RowKit.Hid (okB s.data.toList k→∀ j,j<k+1→okB s.data.toList j):=fun h j hj=>by
   by_cases e:j=k
   ·subst e;exact h
   ·exact M.out j b_53
  have hck:=aDq s k hlt
  have HOK:RowKit.Hid (okB s.data.toList k↔32≤(s[k].toNat:Int)∧(s[k].toNat:Int)≤126∧¬ (0<k∧(s[k].toNat:Int)=32∧((s[k-1]'b_53).toNat:Int)=32)):=by
   have hp:=aDq s (k-1) b_53;constructor
   ·intro h
    have:=h s[k] hck;refine⟨by omega,by omega,?_⟩;rintro ⟨h1,h2,h3⟩;exact this.2.2 ⟨h1,(bBs _).2 h2,by rw[hp];congr 1;exact(bBs _).2 h3⟩
   ·rintro ⟨h1,h2,h3⟩ c hc
    rw[hck] at hc;obtain rfl:=Option.some.inj hc;refine⟨by omega,by omega,?_⟩;rintro ⟨h4,h5,h6⟩;rw[hp] at h6;exact h3 ⟨h4,(bBs _).1 h5,(bBs _).1 (Option.some.inj h6)⟩
  clear hck
  cases b1:decide ((s[k].toNat:Int)<32) with
  | true =>
   have hQ:=HBAD.out (fun h=>by have:=(HOK.out.1 h).1;simp at b1;omega);subst hQ;exact c_129
  | false =>
  cases b2:decide ((126:Int)<(s[k].toNat:Int)) with
  | true =>
   have hQ:=HBAD.out (fun h=>by have:=(HOK.out.1 h).2.1;simp at b2;omega);subst hQ;exact c_129
  | false =>
  rcases Nat.eq_zero_or_pos k with hk0|hkpos
  ·subst hk0
   have Hy:=uZ (HS.out (HOK.out.2 ⟨by simp at b1;omega,by simp at b2;omega,fun h=>absurd h.1 (Nat.lt_irrefl _)⟩));clear HBAD HS HOK M;go_wp2
   go_round
   case rel=>exact⟨1,by omega,by go_num,(show Aside _ from Hy.out)⟩
   case measure=>simp[intOf];omega
  have hkz:(0:Int)<(k:Int):=by omega
  have hki:(0:Int)≤(k:Int)-1:=by omega
  have hki2:(k:Int)-1<(s.size:Int):=by omega
  have hki3:(1:Int)≤(k:Int):=by omega
  have hkt:((k:Int)-1).toNat=k-1:=by omega
  have hk1:k-1<s.size:=by omega
  cases b3:((s[k].toNat:Int) == 32) with
  | false =>
   have Hy:=uZ (HS.out (HOK.out.2 ⟨by simp at b1;omega,by simp at b2;omega,fun h=>by have:=h.2.1;simp at b3;omega⟩));exact c_97
  | true =>
  cases b4:(((s[k-1]'b_53).toNat:Int) == 32) with
  | false =>
   have Hy:=uZ (HS.out (HOK.out.2 ⟨by simp at b1;omega,by simp at b2;omega,fun h=>by have:=h.2.2;simp at b4;omega⟩));exact c_97
  | true =>
   have hQ:=HBAD.out (fun h=>(HOK.out.1 h).2.2 ⟨hkpos,by simpa using b3,by simpa using b4⟩);subst hQ;clear HBAD HS HOK M;exact c_129
theorem c_85 {p:Prop} (h:p:=by
 have Hy:=uZ (HN.out he);clear he HS HN M;exact e_18
):p:=h
theorem c_120 {p:Prop} (h:p:=by
 by_cases e:j=k
 ·subst e;exact h
 ·exact M.out j hj b_53
):p:=h
theorem h_73 {p:Prop} (h:p:=by
 exact(show RowKit.Hid (¬ l[k].id=id→∀ j (hj:j<l.length),j<k+1→¬ l[j].id=id) from fun h j hj h2=>by
  exact c_120)
):p:=h
def okM (l:List UInt8) (i:Nat):Prop:=∀ c,l[i]? = some c→33≤c.toNat∧c.toNat≤126
theorem aLw (l:List UInt8):iB 33 126 l=true↔∀ i,i<l.length→okM l i:=by
 unfold iB;rw[List.all_eq_true];constructor
 ·intro h i hi c hc
  have:=h c (List.mem_of_getElem? hc);rw[Bool.and_eq_true,decide_eq_true_eq,decide_eq_true_eq] at this;exact this
 ·intro h c hc
  obtain⟨i,hi,rfl⟩:=List.mem_iff_getElem.1 hc;have:=h i hi l[i] (List.getElem?_eq_getElem hi);rw[Bool.and_eq_true,decide_eq_true_eq,decide_eq_true_eq];exact this
theorem aCi (s:ByteArray) (w:World) (hb:s.size≤9223372036854775807):Calls Tryz.prog 82 #[.string s] w fun e w'=>e=.returned (.bool (jP s.data.toList))∧aA w w':=by
 have hsd:=fM s
 have hN:jP s.data.toList=(decide (1≤(s.size:Int)) && (decide ((s.size:Int)≤64) && iB 33 126 s.data.toList)):=by
  unfold jP;rw[hsd,← Bool.and_assoc]
  congr 1
  rw[Bool.eq_iff_iff];simp;omega
 rw[hN];have hrest:=aLw s.data.toList;rw[hsd] at hrest;generalize iB 33 126 s.data.toList=Q at hrest ⊢;have HRE:=uZ hrest;clear hsd hN hrest;go_enter Tryz.func82,Tryz.ntmps82;go_wp2
 go_loop [3] (fun i=>∃ k:Nat,k≤s.size∧i=.int .i64 k∧Aside (∀ j,j<k→okM s.data.toList j)) (fun i=>s.size-(intOf i).toNat)
 case atStart=>exact⟨0,by omega,rfl,(show Aside _ from fun j h=>absurd h (Nat.not_lt_zero _))⟩
 case round =>
  obtain⟨k,hk,rfl,M⟩:=hrel;by_cases hlt:k<s.size
  case neg =>
   have hltz:¬ (k:Int)<(s.size:Int):=by omega
   have hQ:Q=true:=HRE.out.2 (fun i hi=>M.out i b_53);subst hQ;cases a1:decide (1≤(s.size:Int))<;>cases a2:decide ((s.size:Int)≤64)
   all_goals
    go_wp2;go_ret;exact⟨rfl,uX w⟩
  have hltz:(k:Int)<(s.size:Int):=by omega
  have h0z:=h_216;have hck:=aDq s k hlt
  have HBAD:RowKit.Hid (¬ okM s.data.toList k→Q=false):=fun h=>by
   rw[← Bool.not_eq_true,HRE.out];exact fun h2=>h (h2 k hlt)
  have HS:RowKit.Hid (okM s.data.toList k→∀ j,j<k+1→okM s.data.toList j):=fun h j hj=>by
   by_cases e:j=k
   ·subst e;exact h
   ·exact M.out j b_53
  have HOK:RowKit.Hid (okM s.data.toList k↔33≤(s[k].toNat:Int)∧(s[k].toNat:Int)≤126):=by
   constructor
   ·intro h
    have:=h s[k] hck;omega
   ·intro h c hc
    rw[hck] at hc;obtain rfl:=Option.some.inj hc;omega
  clear hck
  cases b1:decide ((s[k].toNat:Int)<33) with
  | true =>
   have hQ:=HBAD.out (fun h=>by have:=(HOK.out.1 h).1;simp at b1;omega);subst hQ;go_wp2;go_ret;exact⟨by simp,uX w⟩
  | false =>
  cases b2:decide (126<(s[k].toNat:Int)) with
  | true =>
   have hQ:=HBAD.out (fun h=>by have:=(HOK.out.1 h).2;simp at b2;omega);subst hQ;go_wp2;go_ret;exact⟨by simp,uX w⟩
  | false =>
  have Hy:=uZ (HS.out (HOK.out.2 (by simp at b1 b2;omega)));exact c_97
theorem rO (n:Int) (w:World):Calls Tryz.prog 80 #[.int .i64 n] w fun e w'=>e=.returned (.bool (aN n 1 4))∧w=w':=by
 unfold aN;cases a1:decide (1≤n)<;>cases a2:decide (n≤4)
 all_goals
  go_enter Tryz.func80,Tryz.ntmps80;exact c_130
theorem aKn (p c:Int) (w:World):Calls Tryz.prog 205 #[.int .i64 p,.int .i64 c] w fun e w'=>e=.returned (.bool (fX p c))∧w=w':=by
 have kp:=rO p;have kc:=rO c
 have hf:fX p c=(aN p 1 4 && (aN c 1 4 && (decide (p<c) || ((c == 2) && (p == 2))))):=by
  unfold fX;rw[Bool.and_comm (p == 2)]
 rw[hf];generalize aN p 1 4=q1 at kp ⊢;generalize aN c 1 4=q2 at kc ⊢;have KP:=uZ kp;have KC:=uZ kc;clear kp kc hf;cases q1
 ·go_enter Tryz.func205,Tryz.ntmps205
  go_wp2_with fail;refine(KP.out _).mono ?_;rintro e w1 ⟨rfl,rfl⟩;dsimp only;go_wp2;go_ret;exact⟨by simp,rfl⟩
 cases q2
 ·go_enter Tryz.func205,Tryz.ntmps205
  go_wp2_with fail;refine(KP.out _).mono ?_;rintro e w1 ⟨rfl,rfl⟩;dsimp only;go_wp2_with fail;refine(KC.out _).mono ?_;rintro e w1 ⟨rfl,rfl⟩;dsimp only;go_wp2;go_ret;exact⟨by simp,rfl⟩
 cases a1:decide (p<c)<;>cases a2:(c == 2)<;>cases a3:(p == 2)
 all_goals
  go_enter Tryz.func205,Tryz.ntmps205;go_wp2_with fail;refine(KP.out _).mono ?_;rintro e w1 ⟨rfl,rfl⟩;dsimp only;go_wp2_with fail;refine(KC.out _).mono ?_;rintro e w1 ⟨rfl,rfl⟩;dsimp only;exact c_130
theorem vT {l:List Br} {id:Int} {k:Nat} (h:k<l.length) (hb:∀ j (hj:j<l.length),j<k→¬ l[j].id=id) (he:l[k].id=id):aE l id=some l[k]:=by
 unfold aE;exact List.find?_eq_some_iff_getElem.2 ⟨by simpa using he,k,h,rfl,fun j hj=>by simpa using hb j b_53 hj⟩
theorem tM {l:List Br} {id:Int} (hb:∀ j (hj:j<l.length),¬ l[j].id=id):aE l id=none:=by
 unfold aE;rw[List.find?_eq_none];intro x hx;obtain⟨j,hj,rfl⟩:=List.mem_iff_getElem.1 hx;simpa using hb j hj
theorem aR (l:List Br) (id:Int) (rv bv:Value) (w:World) (hv:bQ w bv l):Calls Tryz.prog 147 #[.agg #[rv,bv],.int .i64 id] w (aY (aE l id) w):=by
 obtain⟨A,c,rfl,hlc,hc,hr⟩:=hv.open_;unfold maxLen at hc;have HR:=uZ hr;have HF1:=uZ (fun k=>@vT l id k);have HF2:=uZ (@tM l id);generalize aE l id=O at HF1 HF2 ⊢;clear hr hv;go_enter Tryz.func147,Tryz.ntmps147;go_wp2
 go_loop [6] (fun i=>∃ k:Nat,k≤l.length∧i=.int .i64 k∧Aside (∀ j (hj:j<l.length),j<k→¬ l[j].id=id)) (fun i=>l.length-(intOf i).toNat)
 case atStart=>exact⟨0,by omega,rfl,(show Aside _ from fun j h h2=>absurd h2 (Nat.not_lt_zero _))⟩
 case round =>
  obtain⟨k,hk,rfl,M⟩:=hrel;by_cases hlt:k<l.length
  ·have hltz:(k:Int)<(l.length:Int):=by omega
   have h0z:=h_216;obtain⟨b,off,rfl,hb,hcell⟩:=HR.out b_53;obtain⟨kv,-,hcl⟩:=hcell k hlt;obtain⟨c0,c1,c2,c3,c4,-⟩:=hcl _ (((uX w).alloc (.cells #[rv,.slice (some ⟨b,off,none⟩) l.length c] 43)).alloc (.cells #[.int .i64 0,.int .i64 0,.int .i64 0,.string ⟨#[]⟩,.string ⟨#[]⟩] 64));have HS:=uZ (HF1.out k hlt M.out);have HN:=h_73;generalize l[k]=y at c0 c1 c2 c3 c4 HS HN;obtain⟨yi,yp,yl,yt,ym,yk⟩:=y;dsimp only at c0 c1 c2 c3 c4 HS HN;clear hcell hcl;by_cases he:yi=id
   ·have hO:=HS.out he
    have he':(yi == id)=true:=by simpa using he
    subst hO;clear he HS HN M HF1 HF2;go_wp2;refine bodyPost_ret (v:=.tuple #[.agg #[.int .i64 yi,.int .i64 yp,.int .i64 yl,.string yt,.string ym],.bool true]) (by simp[results,Tryz.results147,go_sem]) rfl ⟨rfl,?_⟩
    repeat (with_reducible refine yZ ?_ b_54 _)
    exact((uX w).alloc _).alloc _
   ·have he':(yi == id)=false:=by simpa using he
    exact c_85
  ·have hltz:¬ (k:Int)<(l.length:Int):=by omega
   have hO:=HF2.out (fun j hj=>M.out j hj b_53);subst hO;clear HF1 HF2 M;go_wp2;refine bodyPost_ret (v:=.tuple #[.agg #[.int .i64 0,.int .i64 0,.int .i64 0,.string ⟨#[]⟩,.string ⟨#[]⟩],.bool false]) (by simp[results,Tryz.results147,go_sem]) rfl ⟨rfl,?_⟩
   repeat (with_reducible refine yZ ?_ b_54 _)
   exact((uX w).alloc _).alloc _
theorem lX {P:Program} {t e:TypeId} {i:TypeInfo} (ht:P.underlying t=some (.slice e)) (hi:P.info? e=some i) (A:Option Addr) (n c k:Nat) (hk:k≤n) (hn:n≤c) :
  ∀ W,(Instr.slice t (.slice A n c) none (some (.int .i64 (k:Int))) none).run P W=.ok (.slice A k c) W:=by
 intro W;have h0:=h_216;have h1:k≤c:=by omega
 have h2:(k:Int)≤(c:Int):=by omega
 have ha:A.map (fun a=>a.add 0)=A:=by cases A<;>simp[Addr.add]
 simp[Instr.slice,run_underlying ht,Instr.sliceBounds,run_sliceBound,h2,sizeOf,typeInfo,hi,ha]
def yY (A:Option Addr) (n c k size:Nat):Value:=.slice (if c=k then A else A.map (·.add (k*size))) (n-k) (c-k)
theorem iT {P:Program} {t e:TypeId} {i:TypeInfo} {size:Nat} (ht:P.underlying t=some (.slice e)) (hi:P.info? e=some i) (hsize:i.size=size) (A:Option Addr) (n c k:Nat) (hk:k≤n) :
  ∀ W,(Instr.slice t (.slice A n c) (some (.int .i64 (k:Int))) none none).run P W=.ok (yY A n c k size) W:=by
 intro W;subst hsize;have h0:=h_216;have h2:(k:Int)≤(n:Int):=by omega
 simp[Instr.slice,run_underlying ht,Instr.sliceBounds,run_sliceBound,h2,sizeOf,typeInfo,hi,yY]
theorem lU {W:World} {size n c k:Nat} {A:Option Addr} {cs:List Value} (h:Rd W size (.slice A n c) cs) (hk:k≤n):Rd W size (.slice A k c) (cs.take (k*size)):=by
 obtain⟨A',n',c',hv,hl,hn,hc,hr⟩:=h;obtain⟨rfl,rfl,rfl⟩:=Value.slice.inj hv;have hm:k*size≤n*size:=Nat.mul_le_mul_right _ hk;refine⟨A,k,c,rfl,by rw[List.length_take];omega,by omega,hc,fun h0=>?_⟩;obtain⟨b,off,hA,hb,hcell⟩:=hr b_53;refine⟨b,off,hA,hb,fun j u hu=>?_⟩;rw[List.getElem?_take] at hu;split at hu
 ·exact hcell j u hu
 ·cases hu
theorem oA {W:World} {size n c k:Nat} {A:Option Addr} {cs:List Value} (h:Rd W size (.slice A n c) cs) (hk:k≤n):Rd W size (yY A n c k size) (cs.drop (k*size)):=by
 obtain⟨A',n',c',hv,hl,hn,hc,hr⟩:=h;obtain⟨rfl,rfl,rfl⟩:=Value.slice.inj hv;have hm:k*size≤n*size:=Nat.mul_le_mul_right _ hk;refine⟨_,n-k,c-k,rfl,by rw[List.length_drop,hl,Nat.sub_mul],by omega,by omega,fun h0=>?_⟩;obtain⟨b,off,rfl,hb,hcell⟩:=hr b_53;refine⟨b,off+k*size,?_,hb,fun j u hu=>?_⟩
 ·rw[if_neg b_53,Option.map_some,bT]
 ·rw[List.getElem?_drop] at hu
  rw[Nat.add_assoc];exact hcell _ u hu
theorem fS {W:World} {base size:Nat} {e:TypeId} (H:Nat) (hH:W.heap.size=H) (hb:base≤H):(W.alloc (.cells #[] e)).ownsRow base e size (.slice (some ⟨H,0,none⟩) 0 0) 0 []:=by
 subst hH;exact World.ownsRow_made W #[] 0 hb (Nat.zero_le _) b_54
theorem gE {W:World} {size:Nat} {e:TypeId} (cs:List Value) (hl:cs.length=size) (H:Nat) (hH:W.heap.size=H):Rd (W.alloc (.cells cs.toArray e)) size (.slice (some ⟨H,0,none⟩) 1 1) cs:=by
 subst hH;exact Rd.fresh W e size 1 cs b_53 b_47
theorem eO {W:World} {size:Nat} {cs:List Value} {H n:Nat} (hl:cs.length=n*size) (hn:n≤maxLen) (hb:H<W.heap.size) (h:∀ j u,cs[j]? = some u→W.cell? ⟨H,j,none⟩=some u):Rd W size (.slice (some ⟨H,0,none⟩) n n) cs :=
 ⟨_,n,n,rfl,hl,Nat.le_refl _,hn,fun _=>⟨H,0,rfl,hb,fun j u hu=>by rw[Nat.zero_add];exact h j u hu⟩⟩
theorem eM {P:Program} {ops:Array Oper} {o:Oper} {a:Act} {K:Act→World→Prop} {Q:Exit→Act→World→Prop} {E:Prop} (hgd:o.guard=none) (s x:Operand) (t:TypeId)
  (ho:o.op=.call { callee:=.builtin .append,args:=#[s,x],argTypes:=#[t,t] })
  (w0:World) (e:TypeId) (i:TypeInfo) (z:Value) (size bytes:Nat) (ht:P.underlying t=some (.slice e)) (hi:P.info? e=some i) (hz:i.zero=some z)
  (hsize:i.size=size) (hby:i.bytes=bytes) (hzs:z.cells.size=size) (hsz:0<size)
  (v:Value) (n:Nat) (xs:List Value) (hs:a.eval s=v) (wr:World) (hown:wr.ownsRow w0.heap.size e size v n xs) (hg:aA w0 wr)
  (u:Value) (m:Nat) (cs:List Value) (hx:a.eval x=u) (hu:Rd wr size u cs) (hl:cs.length=m*size) (h1:∀ u∈cs,u.oneCell'=true)
  (h63:n+m≤maxLen) (hbytes:(n+m)*bytes≤140737488355328)
  (h:∀ v' w',w'.ownsRow w0.heap.size e size v' (n+m) (xs++cs)→aA w0 w'→(∀ p x,wr.cell? p=some x→some p.block≠v.ownBlock→w'.cell? p=some x)→wr.heap.size≤w'.heap.size→K (a.put o.dst v') w'):if Region.wanted o (yielded ops a.tmps)=true then Oper.wp P o a wr K Q else E:=by
 have hw:Region.wanted o (yielded ops a.tmps)=true:=by simp[Region.wanted,hgd]
 rw[if_pos hw];obtain⟨A,m',c,rfl,hl',hmc,_,hr⟩:=hu;obtain rfl:m'=m:=Nat.eq_of_mul_eq_mul_right hsz (hl'.symm.trans hl)
 cases A with
 | none =>
  have hm0:=h_72;subst hm0;have hcs:=h_190;subst hcs;have hrun:=h_183;unfold Oper.wp execOp;simp only [ho,resolve,invoke,builtin,Sem.run_bind,Sem.run_pure,Result.andThen_ok,List.map_toArray,List.map_cons,List.map_nil,hs,hx,hrun];exact h v wr (by simpa using hown) hg (fun p x hp _=>hp) (Nat.le_refl _)
 | some ad =>
  refine wp_append_own wr s x t ho w0.heap.size e i z size bytes ht hi hz hsize hby hzs hsz v n xs hs hown ad m' c cs hx hl ?_ h1 h63 hbytes hg.size ?_
  ·intro j u hu
   have hj:=(List.getElem?_eq_some_iff.1 hu).1;have h0:=h_129;obtain⟨b,off,hA,_,hcell⟩:=hr h0;cases hA;rw[bT];exact hcell j u hu
  ·intro v' w' h2 h3 _
   exact h v' w' h2 (Below.grown hg h3 hg.size (fun k hk=>(hown.lt k hk).1)) (fun p x hp hne=>h3.cell hp hne) h3.size
theorem aPh (rs:List Int) (l:List Br) (rv bv kv:Value) (w:World) (hE:Env w) (hr:SlI w rv rs) (hv:bQ w bv l) (hf:cF l) (hrl:rs.length≤1000000) (hT:¬ aM ⟨rs,l⟩) :
  Calls Tryz.prog 220 #[.agg #[rv,bv],kv] w fun e w'=>e=.returned (.int .i64 1)∧aA w w':=by
 have KR:=uZ (fun W (hW:aA w W)=>aSv rs l rv bv W (hE.mono hW) (hr.mono hW) (hv.mono hW) hf hrl);have HT:=uZ hT;clear hE hr hv hf hrl hT;go_enter Tryz.func220,Tryz.ntmps220;go_wp2_with fail;refine(KR.out _ ((uX w).alloc _)).mono ?_;rintro e w1 ⟨bb,rfl,hbb,g1⟩
 obtain rfl:bb=false:=by
  cases bb
  ·rfl
  ·exact absurd (hbb.1 rfl) HT.out
 have HG1:=uZ g1;clear hbb g1;dsimp only;go_wp2;go_ret;exact⟨rfl,((uX w).alloc _).trans HG1.out⟩
def qQ (l:List Br) (id:Int):Int:=if id=0 then 0 else nO l [id]
theorem aSw (rs:List Int) (l:List Br) (id:Int) (rv bv:Value) (w:World) (hE:Env w) (hr:SlI w rv rs) (hv:bQ w bv l) (hf:cF l) (hrl:rs.length≤1000000) (n:Int) (hn:(¬ aM ⟨rs,l⟩→n=1)∧(aM ⟨rs,l⟩→n=qQ l id)) :
  Calls Tryz.prog 188 #[.agg #[rv,bv],.int .i64 id] w fun e w'=>e=.returned (.int .i64 n)∧aA w w':=by
 have hfr:∀ W:World,SlI (W.alloc (.cells #[.int .i64 id] 3)) (.slice (some ⟨W.heap.size,0,none⟩) 1 1) [id]:=fun W=>Rd.fresh W _ 1 1 [.int .i64 id] rfl b_52
 have hK:∀ W kv ids,aA w W→SlI W kv ids→(ids=[]∧id=0∨ids=[id]∧id≠0)→Calls Tryz.prog 220 #[.agg #[rv,bv],kv] W fun e w'=>e=.returned (.int .i64 n)∧aA W w':=by
  intro W kv ids hW hk hi;by_cases hT:aM ⟨rs,l⟩
  ·have h1:=aXy rs l ids rv bv kv W (hE.mono hW) (hr.mono hW) (hv.mono hW) hk hf hrl hT
   have h2:nO l ids=n:=by
    rw[hn.2 hT];unfold qQ;rcases hi with ⟨rfl,h⟩|⟨rfl,h⟩
    ·rw[if_pos h]
     rfl
    ·rw[if_neg h]
   rw[h2] at h1;exact h1
  ·have h1:=aPh rs l rv bv kv W (hE.mono hW) (hr.mono hW) (hv.mono hW) hf hrl hT
   rw[hn.1 hT];exact h1
 have KK:=uZ hK;have HFR:=uZ hfr;clear hE hr hv hf hrl hK hfr hn;by_cases h0:id=0
 ·subst h0
  go_enter Tryz.func188,Tryz.ntmps188;go_wp2_with fail;refine(KK.out _ _ [] ((uX w).alloc _) (SlI.nil _) (.inl b_54)).mono ?_;rintro e w1 ⟨rfl,g1⟩;dsimp only;go_wp2;go_ret;exact⟨rfl,((uX w).alloc _).trans g1⟩
 ·have h0':(id == 0)=false:=by simpa using h0
  have H0:=uZ h0;clear h0;go_enter Tryz.func188,Tryz.ntmps188;go_wp2_with fail;refine(KK.out _ _ [id] (((uX w).alloc _).alloc _) (by have:=HFR.out (w.alloc (.cells #[rv,bv] 43));simpa using this) (.inr ⟨rfl,H0.out⟩)).mono ?_;rintro e w1 ⟨rfl,g1⟩;dsimp only;go_wp2;go_ret;exact⟨rfl,(((uX w).alloc _).alloc _).trans g1⟩
theorem aXz (rs:List Int) (l:List Br) (id:Int) (rv bv:Value) (w0 w:World) (hr:SlI w0 rv rs) (hv:bQ w0 bv l) (hg:aA w0 w) (hf:l.length≤1000000) (hT:aM ⟨rs,l⟩) (hid:id=0∨∃ b,aE l id=some b) :
  Calls Tryz.prog 224 #[.agg #[rv,bv],.int .i64 id] w fun e w'=>∃ v,e=.returned v∧SlI w0 v (aB ⟨rs,l⟩ id)∧aA w w':=by
 unfold aB;by_cases h0:id=0
 ·subst h0
  rw[if_pos rfl];have HR:=uZ hr;obtain⟨B,d,rfl,-,-,-⟩:=hr.open_;clear hr hv hg hid;go_enter Tryz.func224,Tryz.ntmps224;go_wp2;go_ret;exact⟨_,rfl,HR.out,(uX w).alloc _⟩
 ·obtain⟨b,hb⟩:=hid.resolve_left h0
  rw[if_neg h0];obtain⟨k,hk,_,e⟩:=gK hb
  have hidk:l[k].id=id:=by
   rw[e];exact(bE hb).2
  obtain⟨h1,h2⟩:=aOd hT.2.1 id k hk hidk;have kA:=fun W (hW:aA w W)=>tAt l id rv bv W (hv.mono (hg.trans hW)) hf (vQ hT.2.1 id)
  rw[h1,h2] at kA;have KA:=uZ kA;obtain⟨A,c,rfl,hlc,hc,hrr⟩:=hv.open_;unfold maxLen at hc;obtain⟨bb,off,rfl,hbk,hcell⟩:=hrr b_53;obtain⟨kv,hkv,hcl⟩:=hcell k hk
  have HKV:RowKit.Hid (SlI w0 kv (match aE l id with|none=>[]|some b=>b.kids)):=by
   rw[hb];rw[e] at hkv;exact hkv
  show Calls Tryz.prog 224 #[.agg #[rv,.slice (some ⟨bb,off,none⟩) l.length c],.int .i64 id] w fun e w'=>∃ v,e=.returned v∧SlI w0 v (match aE l id with|none=>[]|some b=>b.kids)∧aA w w'
  generalize (match aE l id with|none=>[]|some b=>b.kids)=K at HKV ⊢;have hcl5:∀ W,aA w0 W→W.cell? ⟨bb,off+k*6+5,none⟩=some kv:=fun W hW=>(hcl W hW).2.2.2.2.2
  have HC:=uZ hcl5;have HG:=uZ hg;have h0':(id == 0)=false:=by simpa using h0
  have hkz:=h_208;have h0z:=h_216;obtain⟨Az,cz,rfl,-,-,-⟩:=hkv.open_;clear hr hv hg hid hb e h1 h2 kA hrr hcell hcl hcl5 hkv hT h0 hidk;go_enter Tryz.func224,Tryz.ntmps224;go_wp2_with fail;refine(KA.out _ ((uX w).alloc _)).mono ?_;rintro e w1 ⟨rfl,g1⟩;have b0:=yQ g1 0 _ rfl;have b1:=yQ g1 1 _ rfl;have HG1:=h_221;have c5:=HC.out w1 (HG.out.trans HG1.out);clear g1;dsimp only;go_wp2;go_ret;exact⟨_,rfl,HKV.out,HG1.out⟩
theorem sG {l:List Br} {id:Int} (h:qQ l id=0):id=0∨∃ b,aE l id=some b:=by
 unfold qQ at h;by_cases h0:id=0
 ·exact .inl h0
 ·rw[if_neg h0] at h
  unfold nO at h
  cases hb:aE l id with
  | none=>simp[hb] at h
  | some b=>exact .inr ⟨b,rfl⟩
def aWv (r:List Int × Int) (w:World) (e:Ending) (w':World):Prop:=∃ v,e=.returned (.tuple #[v,.int .i64 r.2])∧SlI w' v r.1∧aA w w'
def cM (l:List Br) (m:ByteArray):Option Br:=if m.toList.isEmpty then none else l.find? fun b=>b.mark.toList == m.toList
def nJ (o:Option Br):Value:=.tuple #[.int .i64 (match o with|none=>0|some b=>b.id),.bool o.isSome]
theorem aHo {l:List Br} {m:ByteArray} (hm:m.toList.isEmpty=false) {k:Nat} (hk:k<l.length) (hb:∀ j (hj:j<l.length),j<k→(l[j].mark.toList == m.toList)=false) (he:(l[k].mark.toList == m.toList)=true):cM l m=some l[k]:=by
 unfold cM;rw[hm];exact List.find?_eq_some_iff_getElem.2 ⟨he,k,hk,rfl,fun j hj=>by simpa using hb j b_53 hj⟩
theorem aCr {l:List Br} {m:ByteArray} (hb:∀ j (hj:j<l.length),(l[j].mark.toList == m.toList)=false):cM l m=none:=by
 unfold cM;split
 ·rfl
 ·rw[List.find?_eq_none]
  intro x hx;obtain⟨j,hj,rfl⟩:=List.mem_iff_getElem.1 hx;simp[hb j hj]
theorem gA (l:List Br) (m:ByteArray) (rv bv:Value) (w:World) (hv:bQ w bv l):Calls Tryz.prog 151 #[.agg #[rv,bv],.string m] w fun e w'=>e=.returned (nJ (cM l m))∧aA w w':=by
 obtain⟨A,c,rfl,hlc,hc,hr⟩:=hv.open_;unfold maxLen at hc;have HR:=uZ hr;have GB:=uZ ((uX w).alloc (.cells #[rv,.slice A l.length c] 43));by_cases hm:m.toList.isEmpty=true
 ·have hO:cM l m=none:=by
   unfold cM;rw[if_pos hm]
  rw[hO];have hee:m.toList=[]:=List.isEmpty_iff.1 hm;have hem:(!m.toList.isEmpty)=false:=by simp[hm]
  unfold nJ;dsimp only [Option.isSome_none];clear hr hv hO;go_enter Tryz.func151,Tryz.ntmps151;go_wp2
  go_loop [6] (fun i=>i=.int .i64 0) (fun _=>0)
  case atStart=>rfl
  case round =>
   subst hrel;by_cases hl:0<l.length
   ·have hlz:(0:Int)<(l.length:Int):=by omega
    go_wp2;go_ret2;exact⟨rfl,GB.out⟩
   ·have hlz:¬ (0:Int)<(l.length:Int):=by omega
    go_wp2;go_ret2;exact⟨rfl,GB.out⟩
 ·have hmf:m.toList.isEmpty=false:=by simpa using hm
  have hem:(!m.toList.isEmpty)=true:=by simp[hmf]
  have HF1:=uZ (fun k=>@aHo l m hmf k);have HF2:=uZ (@aCr l m);generalize cM l m=O at HF1 HF2 ⊢;unfold nJ;clear hr hv hm;go_enter Tryz.func151,Tryz.ntmps151;go_wp2
  go_loop [6] (fun i=>∃ k:Nat,k≤l.length∧i=.int .i64 k∧Aside (∀ j (hj:j<l.length),j<k→(l[j].mark.toList == m.toList)=false)) (fun i=>l.length-(intOf i).toNat)
  case atStart=>exact⟨0,by omega,rfl,(show Aside _ from fun j h h2=>absurd h2 (Nat.not_lt_zero _))⟩
  case round =>
   obtain⟨k,hk,rfl,M⟩:=hrel;by_cases hlt:k<l.length
   ·have hltz:(k:Int)<(l.length:Int):=by omega
    have h0z:=h_216;obtain⟨b,off,rfl,hb,hcell⟩:=HR.out b_53;obtain⟨kv,-,hcl⟩:=hcell k hlt;obtain⟨c0,-,-,-,c4,-⟩:=hcl _ GB.out;have HS:=uZ (HF1.out k hlt M.out)
    have HN:RowKit.Hid ((l[k].mark.toList == m.toList)=false→∀ j (hj:j<l.length),j<k+1→(l[j].mark.toList == m.toList)=false):=fun h j hj h2=>by
     exact c_120
    generalize l[k]=y at c0 c4 HS HN;obtain⟨yi,yp,yl,yt,ym,yk⟩:=y;dsimp only at c0 c4 HS HN;clear hcell hcl;cases he:(ym.toList == m.toList)
    ·have Hy:=uZ (HN.out he)
     clear HS HN M;exact e_18
    ·have hO:=HS.out he
     subst hO;clear HS HN M HF1 HF2;go_wp2;go_ret2;exact⟨rfl,GB.out⟩
   ·have hltz:¬ (k:Int)<(l.length:Int):=by omega
    have hO:=HF2.out (fun j hj=>M.out j hj b_53);subst hO;clear HF1 HF2 M;go_wp2;go_ret2;exact⟨rfl,GB.out⟩
theorem h_229 {p:Prop} (h:p:=by
 exact uZ (HG0.out.trans g1)
):p:=h
def zY (m:ByteArray) (x:ByteArray):Bool:=!m.toList.isEmpty && (x.toList == m.toList)
def aCs (l:List Br) (m:ByteArray):Int:=lL (fun b=>zY m b.mark) l
theorem aAa {l:List Br} {m:ByteArray} (h:cM l m=none):aCs l m=-1:=by
 refine eA _ l (fun i hi=>?_);unfold cM at h;unfold zY;by_cases hm:m.toList.isEmpty=true
 ·rw[hm]
  rfl
 ·rw[if_neg hm] at h
  have:=List.find?_eq_none.1 h l[i] (List.getElem_mem hi);simp only [Bool.not_eq_true] at this;rw[this,Bool.and_false]
theorem zZ {l:List Br} {m:ByteArray} {b:Br} (h:cM l m=some b):∃ k,∃ hk:k<l.length,aCs l m=(k:Int)∧l[k]=b:=by
 unfold cM at h;by_cases hm:m.toList.isEmpty=true
 ·rw[if_pos hm] at h
  cases h
 ·rw[if_neg hm] at h
  have hmf:m.toList.isEmpty=false:=by simpa using hm
  obtain⟨hb,k,hk,e,hbef⟩:=List.find?_eq_some_iff_getElem.1 h;refine⟨k,hk,eW _ l k hk (by unfold zY;rw[hmf,e];simpa using hb) (fun i hi hik=>?_),e⟩;have:=hbef i hik;unfold zY;rw[hmf];simpa using this
theorem aPg (B:Nat) (m:ByteArray) (x:BrC) (W:World) (h0:W.cell? ⟨B,0,none⟩=some (.string m)) :
  Calls Tryz.prog 216 (#[x.agg] ++ #[.pointer (some ⟨B,0,none⟩)]) W fun e w'=>e=.returned (.bool (zY m x.mark))∧aA W w':=by
 have hB:=World.block_lt_of_cell? W _ h0;unfold BrC.agg zY
 cases hm:m.toList.isEmpty with
 | true =>
  have hee:m.toList=[]:=List.isEmpty_iff.1 hm;have hem:(!m.toList.isEmpty)=false:=by simp[hm]
  go_enter Tryz.func216,Tryz.ntmps216;go_wp2;go_ret;exact⟨by simp,by first|exact(uX W).alloc _|exact((uX W).alloc _).drew⟩
 | false =>
  have hem:(!m.toList.isEmpty)=true:=by simp[hm]
  go_enter Tryz.func216,Tryz.ntmps216;go_wp2;go_ret;exact⟨by simp,by first|exact(uX W).alloc _|exact((uX W).alloc _).drew⟩
theorem tH:∀ args w,(callFunc 216 args).run Tryz.prog w=.ok (.enter 216 args) w:=enters_of Tryz.func216 (by kernel_rfl) rfl
theorem aUh (l:List Br) (m:ByteArray) (rv bv:Value) (w:World) (hv:bQ w bv l):Calls Tryz.prog 184 #[.agg #[rv,bv],.string m] w fun e w'=>e=.returned (nJ (cM l m))∧aA w w':=by
 obtain⟨A,c,rfl,hlc,hc,hr⟩:=hv.open_;unfold maxLen at hc;have HR:=uZ hr;obtain⟨cs,h1,h2,h3⟩:=hv
 have he:aCs l m=lL (fun c:BrC=>zY m c.mark) cs:=(xQ cs l h2 (fun i h h'=>by
  have:=congrArg BrC.mark (h3 i h h').1;simp only [Br.c] at this
  rw[this])).symm
 have hix:=qH cs (fun c=>zY m c.mark) _ _ tH (.slice A l.length c) ((w.alloc (.cells #[rv,.slice A l.length c] 43)).alloc (.cells #[.string m] 9)) (h1.mono (((uX w).alloc _).alloc _)) (fun W x hW _=>aPg (w.heap.size+1) m x W (by
  have:=yQ (cs:=[.string m]) hW 0 _ rfl
  simpa using this))
 rw[← he] at hix;have HG0:=uZ (((uX w).alloc (.cells #[rv,.slice A l.length c] 43)).alloc (.cells #[.string m] 9));clear h1 h3 he hr
 cases hO:cM l m with
 | none =>
  rw[aAa hO] at hix;have HX:=uZ hix;unfold nJ;dsimp only [Option.isSome_none];clear hix hO;go_enter Tryz.func184,Tryz.ntmps184;go_wp2_with fail;refine HX.out.mono ?_;rintro e w1 ⟨rfl,g1⟩;dsimp only;go_wp2;go_ret2;exact⟨rfl,HG0.out.trans g1⟩
 | some b =>
  obtain⟨k,hk,ek,eb⟩:=zZ hO;rw[ek] at hix;have HX:=uZ hix;unfold nJ;dsimp only [Option.isSome_some];obtain⟨bb,off,rfl,hbk,hcell⟩:=HR.out b_53;obtain⟨kv,-,hcl⟩:=hcell k hk;have HC:=uZ (fun W (hW:aA w W)=>(hcl W hW).1);rw[eb] at HC;have hkz:=h_208;have h0z:=h_216;clear hix hO ek eb hcell hcl;go_enter Tryz.func184,Tryz.ntmps184;go_wp2_with fail;refine HX.out.mono ?_;rintro e w1 ⟨rfl,g1⟩;have HG1:=h_229;have c0:=HC.out w1 HG1.out;have t0:=uQ g1 (uQ ((uX _).alloc (.cells #[.string m] 9)) (yQ (uX (w.alloc (.cells [rv,.slice (some ⟨bb,off,none⟩) l.length c].toArray 43))) 1 _ rfl));clear g1;dsimp only;go_wp2;go_ret2;exact⟨rfl,HG1.out⟩
theorem c_103 {p:Prop} (h:p:=by
 rcases (cQ hC.asc u).1 (hC.placed u hu) with ⟨h1,_⟩|⟨_,p,hpm,h2,_⟩
 ·exact .inl h1
 ·exact .inr ⟨p,hpm,h2⟩
):p:=h
theorem h_165 {p:Prop} (h:p:=by
 exact(show u.parent=0∨∃ b∈t.brs,b.id=u.parent from by
  exact c_103)
):p:=h
theorem eQ (n x:Int) (l:List Int):x∈aI n l↔x∈l∧x≠n:=by
 unfold aI;simp
theorem iN (n:Int) {l:List Int} (h:l.Nodup):(aI n l).Nodup:=List.Pairwise.filter _ h
theorem aAb {t:Tr} (h:bG t) {u:Br} (hu:u∈t.brs) (q:Int) (hq:q=0∨∃ b∈t.brs,b.id=q):∀ x,x∈aB (fW t u.parent (aI u.id (aB t u.parent))) q↔x∈aB t q∧x≠u.id:=by
 obtain⟨hC,hK⟩:=(bX t).1 h;have hp:=h_165;intro x;rw[gH _ _ q hp];by_cases hqp:q=u.parent
 ·rw[if_pos hqp,eQ,hqp]
 ·rw[if_neg hqp]
  refine⟨fun hx=>⟨hx,fun e=>?_⟩,fun hx=>hx.1⟩;obtain⟨b,hb,h1,h2⟩:=((hK q hq).2 x).1 hx;have:=lD hC.asc hb hu (by rw[h2];exact e);subst this;exact hqp h1.symm
theorem aHl {t:Tr} (h:bG t) {u:Br} (hu:u∈t.brs) (q:Int) (hq:q=0∨∃ b∈t.brs,b.id=q):(aB (fW t u.parent (aI u.id (aB t u.parent))) q).Nodup:=by
 obtain⟨hC,hK⟩:=(bX t).1 h;have hp:=h_165;rw[gH _ _ q hp];by_cases hqp:q=u.parent
 ·rw[if_pos hqp]
  exact iN _ (hK _ hp).1
 ·rw[if_neg hqp]
  exact(hK q hq).1
theorem qS {t:Tr} {o:Opn} {u:Br} (h:bG t) (hu:u∈t.brs) (hid:u.id=o.unit) (hk:u.kids=[]):bG (fJ t o u):=by
 obtain⟨hC,hK⟩:=(bX t).1 h;have hu0:u.id≠0:=cC (hC.units u hu);have hw:=aAb h hu;have hnd:=aHl h hu;have hT:=oV u.parent (aI u.id (aB t u.parent)) hC;have hids:=oU t u.parent (aI u.id (aB t u.parent));have hkd:=oT t u.parent (aI u.id (aB t u.parent))
 have hno:∀ x,¬ ∃ c∈(fW t u.parent (aI u.id (aB t u.parent))).brs,c.parent=u.id∧c.id=x:=by
  have hku:=hK u.id (.inr ⟨u,hu,rfl⟩);rw[jU hC.asc hu hu0,hk] at hku;have h2:=(hkd [] u.id).2 hku;intro x hx;have:=(h2.2 x).2 hx;cases this
 unfold fJ;rw[← hid];generalize fW t u.parent (aI u.id (aB t u.parent))=t1 at hw hnd hT hids hkd hno ⊢;have hfil:∀ c,c∈t1.brs.filter (fun b=>!(b.id == u.id))↔c∈t1.brs∧c.id≠u.id:=fun c=>by simp
 have hasc:bP (t1.brs.filter fun b=>!(b.id == u.id)):=List.Pairwise.filter _ hT.asc;have hpar:∀ c∈t1.brs,c.parent≠u.id:=fun c hc e=>hno c.id ⟨c,hc,e,rfl⟩
 rw[bX];refine⟨⟨Nat.le_trans (List.length_filter_le _ _) hT.len,hasc,fun c hc=>hT.units c ((hfil c).1 hc).1,fun c hc d hd=>hT.marks c ((hfil c).1 hc).1 d ((hfil d).1 hd).1,fun c hc=>?_,?_⟩,fun q hq=>?_⟩
 ·have hc1:=(hfil c).1 hc
  rw[cQ hasc];rcases (cQ hT.asc c).1 (hT.placed c hc1.1) with h1|⟨h1,p,hp,h2,h3⟩
  ·exact .inl h1
  ·exact .inr ⟨h1,p,(hfil p).2 ⟨hp,by rw[h2];exact hpar c hc1.1⟩,h2,h3⟩
 ·obtain⟨r,hr⟩:=hT.rank
  exact⟨r,fun c hc=>hr c ((hfil c).1 hc).1⟩
 ·have hqu:q≠u.id:=by
   rcases hq with h1|⟨c,hc,e⟩
   ·rw[h1];exact fun e=>hu0 e.symm
   ·rw[← e];exact((hfil c).1 hc).2
  have hq1:q=0∨∃ b∈t.brs,b.id=q:=by
   rcases hq with h1|⟨c,hc,e⟩
   ·exact .inl h1
   ·exact .inr ((hids q).1 ⟨c,((hfil c).1 hc).1,e⟩)
  have hch:aB ⟨t1.roots,t1.brs.filter fun b=>!(b.id == u.id)⟩ q=aB t1 q:=by
   unfold aB;split
   ·rfl
   ·show(match aE (t1.brs.filter fun b=>!(b.id == u.id)) q with
     | none=>[]
     | some b=>b.kids)=_
    cases hf:aE t1.brs q with
    | none=>rw[(fE q).2 (fun c hc=>(fE q).1 hf c ((hfil c).1 hc).1)]
    | some b =>
     have hb:=bE hf;rw[(aFt hasc q b).2 ⟨(hfil b).2 ⟨hb.1,by rw[hb.2];exact hqu⟩,hb.2⟩]
  rw[hch];refine⟨hnd q hq1,fun x=>?_⟩;rw[hw q hq1,((hkd _ q).2 (hK q hq1)).2 x];constructor
  ·rintro ⟨⟨c,hc,h1,h2⟩,hx⟩
   exact⟨c,(hfil c).2 ⟨hc,by rw[h2];exact hx⟩,h1,h2⟩
  ·rintro ⟨c,hc,h1,h2⟩
   have hc1:=(hfil c).1 hc;exact⟨⟨c,hc1.1,h1,h2⟩,by rw[← h2];exact hc1.2⟩
theorem sY {t:Tr} (h:bG t) (n:Int) (f:Br→Br) (hf:∀ b,(f b).id=b.id∧(f b).parent=b.parent∧(f b).level=b.level∧(f b).kids=b.kids) (hu:∀ b∈t.brs,b.id=n→nU (f b))
  (hm:∀ b∈t.brs,b.id=n→∀ c∈t.brs,c.id≠n→(f b).mark.toList.isEmpty=false→(f b).mark.toList≠c.mark.toList):bG (jX t n f):=by
 obtain⟨hC,hK⟩:=(bX t).1 h;have e1:∀ b,(if b.id=n then f b else b).id=b.id:=fun b=>by split<;>simp[hf]
 have e2:∀ b,(if b.id=n then f b else b).parent=b.parent:=fun b=>by split<;>simp[hf]
 have e3:∀ b,(if b.id=n then f b else b).level=b.level:=fun b=>by split<;>simp[hf]
 have e4:∀ b,(if b.id=n then f b else b).kids=b.kids:=fun b=>by split<;>simp[hf]
 have hasc:bP (t.brs.map fun b=>if b.id=n then f b else b):=List.Pairwise.map _ (fun a b hab=>by rw[e1,e1];exact hab) hC.asc;rw[bX];unfold jX;refine⟨⟨by rw[List.length_map];exact hC.len,hasc,fun c hc=>?_,fun c hc d hd hne he=>?_,fun c hc=>?_,?_⟩,fun q hq=>?_⟩
 ·obtain⟨b,hb,rfl⟩:=List.mem_map.1 hc
  by_cases hbn:b.id=n
  ·rw[if_pos hbn];exact hu b hb hbn
  ·rw[if_neg hbn];exact hC.units b hb
 ·obtain⟨b,hb,rfl⟩:=List.mem_map.1 hc
  obtain⟨b2,hb2,rfl⟩:=List.mem_map.1 hd;rw[e1,e1];by_cases hbn:b.id=n<;>by_cases hbn2:b2.id=n
  ·rw[hbn,hbn2]
  ·rw[if_pos hbn] at hne he
   rw[if_neg hbn2] at he;exact absurd he (hm b hb hbn b2 hb2 hbn2 hne)
  ·rw[if_neg hbn] at hne he
   rw[if_pos hbn2] at he;exact absurd he.symm (hm b2 hb2 hbn2 b hb hbn (by rw[← he];exact hne))
  ·rw[if_neg hbn] at hne he
   rw[if_neg hbn2] at he;exact hC.marks b hb b2 hb2 hne he
 ·obtain⟨b,hb,rfl⟩:=List.mem_map.1 hc
  rw[cQ hasc,e2,e3];rcases (cQ hC.asc b).1 (hC.placed b hb) with h1|⟨h1,p,hp,h2,h3⟩
  ·exact .inl h1
  ·exact .inr ⟨h1,_,List.mem_map.2 ⟨p,hp,rfl⟩,by rw[e1];exact h2,by rw[e3];exact h3⟩
 ·obtain⟨r,hr⟩:=hC.rank
  refine⟨r,fun c hc=>?_⟩;obtain⟨b,hb,rfl⟩:=List.mem_map.1 hc;rw[e1,e2];exact hr b hb
 ·have hq1:q=0∨∃ b∈t.brs,b.id=q:=by
   rcases hq with h1|⟨c,hc,e⟩
   ·exact .inl h1
   ·obtain⟨b,hb,rfl⟩:=List.mem_map.1 hc
    exact .inr ⟨b,hb,by rw[← e,e1]⟩
  have hch:aB ⟨t.roots,t.brs.map fun b=>if b.id=n then f b else b⟩ q=aB t q:=by
   unfold aB;split
   ·rfl
   ·show(match aE (t.brs.map fun b=>if b.id=n then f b else b) q with
     | none=>[]
     | some b=>b.kids)=_
    rw[pF _ e1]
    cases aE t.brs q with
    | none=>rfl
    | some b=>exact e4 b
  rw[hch];refine⟨(hK q hq1).1,fun x=>?_⟩;rw[(hK q hq1).2 x];constructor
  ·rintro ⟨c,hc,h1,h2⟩
   exact⟨_,List.mem_map.2 ⟨c,hc,rfl⟩,by rw[e2];exact h1,by rw[e1];exact h2⟩
  ·rintro ⟨c,hc,h1,h2⟩
   obtain⟨b,hb,rfl⟩:=List.mem_map.1 hc;exact⟨b,hb,by rw[← h1,e2],by rw[← h2,e1]⟩
inductive bR (l:List Br) (n:Int):Int→Prop
 | self:bR l n n
 | step {b:Br}:b∈l→b.parent≠0→bR l n b.parent→bR l n b.id
theorem lO {l:List Br} (h:bP l) {n:Int} {b:Br} (hb:b∈l) (hne:b.id≠n) (hu:bR l n b.id):b.parent≠0∧bR l n b.parent:=by
 generalize hx:b.id=x at hu
 cases hu with
 | self=>exact absurd hx hne
 | @step c hc hp hu =>
  have:=lD h hb hc hx;subst this;exact⟨hp,hu⟩
structure qP (t:Tr) (o:Opn) (u:Br):Prop where
 mem:u∈t.brs
 id:u.id=o.unit
 stands:jC t.brs o.parent u.level
 notBelow:¬ bR t.brs o.unit o.parent
 before:o.before≠0→o.before∈aI o.unit (aB t o.parent)
theorem aGn {n:Int} {l:List Int} (h:n∉l):aI n l=l:=by
 unfold aI;rw[List.filter_eq_self];intro x hx;simp;rintro rfl;exact h hx
theorem rE {t:Tr} (h:bG t) {u:Br} (hu:u∈t.brs) (q:Int) (hq:q=0∨∃ b∈t.brs,b.id=q):aB (fW t u.parent (aI u.id (aB t u.parent))) q=aI u.id (aB t q):=by
 obtain⟨hC,hK⟩:=(bX t).1 h;have hp:=h_165;rw[gH _ _ q hp];by_cases hqp:q=u.parent
 ·rw[if_pos hqp,hqp]
 ·rw[if_neg hqp,aGn]
  intro hm;obtain⟨b,hb,h1,h2⟩:=((hK q hq).2 u.id).1 hm;have:=lD hC.asc hb hu h2;subst this;exact hqp h1.symm
theorem vB {t:Tr} {o:Opn} {u:Br} (h:bG t) (hc:qP t o u):bG (jM t o u):=by
 obtain⟨hC,hK⟩:=(bX t).1 h;have hu:=hc.mem;have hu0:u.id≠0:=cC (hC.units u hu);have hp:=h_50;have htk:=rE h hu;have hT1:=oV u.parent (aI u.id (aB t u.parent)) hC;have hids1:=oU t u.parent (aI u.id (aB t u.parent));have hkd1:=oT t u.parent (aI u.id (aB t u.parent));have hbr1:=dH t u.parent (aI u.id (aB t u.parent));unfold jM;rw[← hc.id];generalize fW t u.parent (aI u.id (aB t u.parent))=t1 at htk hT1 hids1 hkd1 hbr1 ⊢
 have hp1:o.parent=0∨∃ b∈t1.brs,b.id=o.parent:=by
  rcases hp with h1|h1
  ·exact .inl h1
  ·exact .inr ((hids1 _).2 h1)
 have hT2:=oV o.parent (iL u.id o.before (aB t1 o.parent)) hT1;have hids2:=oU t1 o.parent (iL u.id o.before (aB t1 o.parent));have hkd2:=oT t1 o.parent (iL u.id o.before (aB t1 o.parent));have hch2:=fun q=>gH (t:=t1) o.parent (iL u.id o.before (aB t1 o.parent)) q hp1
 have hbr2:=dH t1 o.parent (iL u.id o.before (aB t1 o.parent));simp only;generalize fW t1 o.parent (iL u.id o.before (aB t1 o.parent))=t2 at hT2 hids2 hkd2 hch2 hbr2 ⊢
 -- the units of the three trees are the same but for their children
 have hm12:∀(l:List Br) (p:Int) (ks:List Int) (m:List Br),m=(if p=0 then l else l.map (jD p ks))→(∀ c∈m,∃ d∈l,mK c=mK d)∧∀ d∈l,∃ c∈m,mK c=mK d:=by
  rintro l p ks m rfl;split
  ·exact⟨fun c hc=>⟨c,hc,rfl⟩,fun d hd=>⟨d,hd,rfl⟩⟩
  ·refine⟨fun c hc=>?_,fun d hd=>⟨_,List.mem_map.2 ⟨d,hd,rfl⟩,fC _ _ d⟩⟩
   obtain⟨d,hd,rfl⟩:=List.mem_map.1 hc;exact⟨d,hd,fC _ _ d⟩
 have hm1:=hm12 _ _ _ _ hbr1;have hm2:=hm12 _ _ _ _ hbr2
 have down:∀ c∈t2.brs,∃ d∈t.brs,mK c=mK d:=fun c hcm=>by
  obtain⟨d,hd,e⟩:=hm2.1 c hcm;obtain⟨d2,hd2,e2⟩:=hm1.1 d hd;exact⟨d2,hd2,e.trans e2⟩
 have up:∀ d∈t.brs,∃ c∈t2.brs,mK c=mK d:=fun d hd=>by
  obtain⟨c,hcm,e⟩:=hm1.2 d hd;obtain⟨c2,hc2,e2⟩:=hm2.2 c hcm;exact⟨c2,hc2,e2.trans e⟩
 clear hm12 hbr1 hbr2;have e1:∀ b:Br,(if b.id=u.id then { b with parent:=o.parent } else b).id=b.id:=fun b=>by split<;>rfl
 have e3:∀ b:Br,(if b.id=u.id then { b with parent:=o.parent } else b).level=b.level:=fun b=>by split<;>rfl
 have e4:∀ b:Br,(if b.id=u.id then { b with parent:=o.parent } else b).kids=b.kids:=fun b=>by split<;>rfl
 have e5:∀ b:Br,(if b.id=u.id then { b with parent:=o.parent } else b).title=b.title:=fun b=>by split<;>rfl
 have e6:∀ b:Br,(if b.id=u.id then { b with parent:=o.parent } else b).mark=b.mark:=fun b=>by split<;>rfl
 have hasc:bP (t2.brs.map fun b=>if b.id=u.id then { b with parent:=o.parent } else b):=List.Pairwise.map _ (fun a b hab=>by rw[e1,e1];exact hab) hT2.asc;rw[bX];unfold jX;refine⟨⟨by rw[List.length_map];exact hT2.len,hasc,fun c hcm=>?_,fun c hcm d hdm hne he=>?_,fun c hcm=>?_,?_⟩,fun q hq=>?_⟩
 ·obtain⟨b,hb,rfl⟩:=List.mem_map.1 hcm
  have:=hT2.units b hb;unfold nU at this ⊢;rw[e1,e3,e5,e6];exact this
 ·obtain⟨b,hb,rfl⟩:=List.mem_map.1 hcm
  obtain⟨b2,hb2,rfl⟩:=List.mem_map.1 hdm;rw[e6] at hne he;rw[e6] at he;rw[e1,e1];exact hT2.marks b hb b2 hb2 hne he
 ·obtain⟨b,hb,rfl⟩:=List.mem_map.1 hcm
  rw[cQ hasc,e3]
  have hst:∀ p lv,jC t2.brs p lv→(p=0∧lv=1)∨(p≠0∧∃ q∈t2.brs.map (fun b=>if b.id=u.id then { b with parent:=o.parent } else b),q.id=p∧fX q.level lv=true):=by
   rintro p lv (h1|⟨h1,q,hq,h2,h3⟩)
   ·exact .inl h1
   ·exact .inr ⟨h1,_,List.mem_map.2 ⟨q,hq,rfl⟩,by rw[e1];exact h2,by rw[e3];exact h3⟩
  by_cases hbu:b.id=u.id
  ·rw[if_pos hbu]
   refine hst _ _ ?_
   have hl:b.level=u.level:=by
    obtain⟨d,hd,e⟩:=down b hb;have:=lD hC.asc hd hu (by rw[← (bZ e).1];exact hbu);rw[(bZ e).2.2.1,this]
   rw[hl];rcases hc.stands with h1|⟨h1,q,hq,h2,h3⟩
   ·exact .inl h1
   ·obtain⟨c,hcm2,e⟩:=up q hq
    exact .inr ⟨h1,c,hcm2,by rw[(bZ e).1];exact h2,by rw[(bZ e).2.2.1];exact h3⟩
  ·rw[if_neg hbu]
   exact hst _ _ ((cQ hT2.asc b).1 (hT2.placed b hb))
 ·obtain⟨r,hr⟩:=hC.rank
  classical
  refine⟨fun x=>if bR t.brs u.id x then r x+(r o.parent+1) else r x,fun c hcm hpn=>?_⟩;obtain⟨b,hb,rfl⟩:=List.mem_map.1 hcm;obtain⟨d,hd,e⟩:=down b hb;have hid:=(bZ e).1;have hpar:=(bZ e).2.1;rw[e1];by_cases hbu:b.id=u.id
  ·rw[if_pos hbu] at hpn ⊢
   simp only;rw[hbu,if_neg (by rw[hc.id];exact hc.notBelow),if_pos bR.self];omega
  ·rw[if_neg hbu] at hpn ⊢
   have hlt:=hr d hd (by rw[← hpar];exact hpn);rw[← hpar,← hid] at hlt
   have hiff:bR t.brs u.id b.id↔bR t.brs u.id b.parent:=by
    rw[hid,hpar];constructor
    ·exact fun hx=>(lO hC.asc hd (by rw[← hid];exact hbu) hx).2
    ·exact fun hx=>bR.step hd (by rw[← hpar];exact hpn) hx
   simp only;by_cases hx:bR t.brs u.id b.parent
   ·rw[if_pos hx,if_pos (hiff.2 hx)]
    omega
   ·rw[if_neg hx,if_neg (fun h=>hx (hiff.1 h))]
    exact hlt
 ·have hq1:q=0∨∃ b∈t.brs,b.id=q:=by
   rcases hq with h1|⟨c,hcm,e⟩
   ·exact .inl h1
   ·obtain⟨b,hb,rfl⟩:=List.mem_map.1 hcm
    obtain⟨d,hd,e2⟩:=down b hb;exact .inr ⟨d,hd,by rw[← (bZ e2).1,← e,e1]⟩
  have hch:aB ⟨t2.roots,t2.brs.map fun b=>if b.id=u.id then { b with parent:=o.parent } else b⟩ q=aB t2 q:=by
   unfold aB;split
   ·rfl
   ·show(match aE (t2.brs.map fun b=>if b.id=u.id then { b with parent:=o.parent } else b) q with
     | none=>[]
     | some b=>b.kids)=_
    rw[pF _ e1]
    cases aE t2.brs q with
    | none=>rfl
    | some b=>exact e4 b
  have hKq:=hK q hq1
  have hset:∀ x,(∃ c∈t2.brs.map (fun b=>if b.id=u.id then { b with parent:=o.parent } else b),c.parent=q∧c.id=x)↔(x=u.id∧o.parent=q)∨(x≠u.id∧x∈aB t q):=by
   intro x;rw[hKq.2 x];constructor
   ·rintro ⟨c,hcm,h1,h2⟩
    obtain⟨b,hb,rfl⟩:=List.mem_map.1 hcm;rw[e1] at h2;by_cases hbu:b.id=u.id
    ·rw[if_pos hbu] at h1
     exact .inl ⟨by rw[← h2];exact hbu,h1⟩
    ·rw[if_neg hbu] at h1
     obtain⟨d,hd,e⟩:=down b hb;exact .inr ⟨by rw[← h2];exact hbu,d,hd,by rw[← (bZ e).2.1];exact h1,by rw[← (bZ e).1];exact h2⟩
   ·rintro (⟨h1,h2⟩|⟨h1,d,hd,h2,h3⟩)
    ·obtain⟨c,hcm,e⟩:=up u hu
     refine⟨_,List.mem_map.2 ⟨c,hcm,rfl⟩,?_,by rw[e1,(bZ e).1];exact h1.symm⟩;rw[if_pos (bZ e).1];exact h2
    ·obtain⟨c,hcm,e⟩:=up d hd
     have hcu:c.id≠u.id:=by rw[(bZ e).1,h3];exact h1
     refine⟨_,List.mem_map.2 ⟨c,hcm,rfl⟩,?_,by rw[e1,(bZ e).1];exact h3⟩;rw[if_neg hcu,(bZ e).2.1];exact h2
  have h00:(0:Int)∉aB t1 o.parent:=fun hm=>by
   rw[htk o.parent hp,eQ] at hm;obtain⟨b,hb,_,e⟩:=((hK _ hp).2 0).1 hm.1;exact cC (hC.units b hb) e
  have hbf:o.before≠0→o.before∈aB t1 o.parent:=fun hb=>by
   rw[htk o.parent hp,hc.id];exact hc.before hb
  have hnu:u.id∉aB t1 o.parent:=fun hm=>by
   rw[htk o.parent hp,eQ] at hm;exact hm.2 rfl
  have hnd1:(aB t1 o.parent).Nodup:=by
   rw[htk o.parent hp];exact iN _ (hK _ hp).1
  rw[hch,hch2 q];unfold fK;simp only [hset];by_cases hqp:q=o.parent
  ·rw[if_pos hqp]
   refine⟨qD (fun _=>h00) hbf hnd1 hnu,fun x=>?_⟩;rw[rU (fun _=>h00) hbf,htk o.parent hp,eQ,← hqp];constructor
   ·rintro (h1|⟨h1,h2⟩)
    ·exact .inl ⟨h1,rfl⟩
    ·exact .inr ⟨h2,h1⟩
   ·rintro (⟨h1,_⟩|⟨h1,h2⟩)
    ·exact .inl h1
    ·exact .inr ⟨h2,h1⟩
  ·rw[if_neg hqp,htk q hq1]
   refine⟨iN _ hKq.1,fun x=>?_⟩;rw[eQ];constructor
   ·rintro ⟨h1,h2⟩
    exact .inr ⟨h2,h1⟩
   ·rintro (⟨_,h2⟩|⟨h1,h2⟩)
    ·exact absurd h2.symm hqp
    ·exact⟨h2,h1⟩
def cO (t:Tr):Nat→Int→List Int
 | 0,n=>[n]
 | f+1,n=>n::(aB t n).flatMap (cO t f)
def bA (t:Tr) (n:Int):List Int:=if n=0 then t.roots.flatMap (cO t t.brs.length) else cO t t.brs.length n
theorem sD {l:List Br} {a b c:Int} (h1:bR l a b) (h2:bR l b c):bR l a c:=by
 induction h2 with
 | self=>exact h1
 | step hb hp _ ih=>exact bR.step hb hp ih
theorem dY {t:Tr} (h:bG t) {n x:Int} (hn:n=0∨∃ b∈t.brs,b.id=n):x∈aB t n↔∃ c∈t.brs,c.parent=n∧c.id=x :=
 ((bX t).1 h |>.2 n hn).2 x
theorem jY {t:Tr} (h:bG t) {n x:Int} (hni:∃ b∈t.brs,b.id=n) (hu:bR t.brs n x):x=n∨∃ k∈aB t n,bR t.brs k x:=by
 induction hu with
 | self=>exact .inl rfl
 | @step b hb hp _ ih =>
  rcases ih with e|⟨k,hk,hu⟩
  ·exact .inr ⟨b.id,(dY h (.inr hni)).2 ⟨b,hb,e,rfl⟩,bR.self⟩
  ·exact .inr ⟨k,hk,bR.step hb hp hu⟩
theorem fT {t:Tr} (h:bG t) {b c:Br} {d:Nat} (hb:b∈t.brs) (hc:c∈t.brs) (hp:c.parent=b.id) (hd:dJ t.brs t.brs.length b=some d):dJ t.brs t.brs.length c=some (d+1):=by
 have hb0:=cC (h.units b hb)
 have h1:dJ t.brs (t.brs.length+1) c=some (d+1):=by
  unfold dJ;rw[if_neg (by rw[hp];exact hb0),hp,dN h.asc hb];show(dJ t.brs t.brs.length b).map (· + 1)=_;rw[hd];rfl
 exact(eB _ c _ h1).2 _ (by have:=lA h.asc hc h1;omega)
theorem gZ {t:Tr} (h:bG t) {b:Br} (hb:b∈t.brs):∃ d,dJ t.brs t.brs.length b=some d∧d≤t.brs.length:=by
 have h2:=(oS t).2 h;have:=(lE (P:=fun b=>(dJ t.brs t.brs.length b).isSome=true)).1 h2.2.2.2.2.2 b hb;obtain⟨d,hd⟩:=Option.isSome_iff_exists.1 this;exact⟨d,hd,lA h.asc hb hd⟩
theorem mY {t:Tr} (h:bG t):∀(f:Nat) (b:Br) (d:Nat),b∈t.brs→dJ t.brs t.brs.length b=some d→t.brs.length≤f+d→∀ x,x∈cO t f b.id↔bR t.brs b.id x:=by
 intro f
 induction f with
 | zero =>
  intro b d hb hd hf x;unfold cO;rw[List.mem_singleton];constructor
  ·rintro rfl;exact bR.self
  ·intro hu
   rcases jY h ⟨b,hb,rfl⟩ hu with e|⟨k,hk,_⟩
   ·exact e
   ·exfalso
    obtain⟨c,hc,hp,_⟩:=(dY h (.inr ⟨b,hb,rfl⟩)).1 hk;have h1:=fT h hb hc hp hd;have h2:=lA h.asc hc h1;omega
 | succ f ih =>
  intro b d hb hd hf x;unfold cO;rw[List.mem_cons,List.mem_flatMap]
  have hkid:∀ k,k∈aB t b.id→∃ c∈t.brs,c.parent=b.id∧c.id=k∧∀ x,x∈cO t f k↔bR t.brs k x:=by
   intro k hk;obtain⟨c,hc,hp,e⟩:=(dY h (.inr ⟨b,hb,rfl⟩)).1 hk;refine⟨c,hc,hp,e,fun x=>?_⟩;rw[← e];exact ih c (d+1) hc (fT h hb hc hp hd) b_53 x
  constructor
  ·rintro (rfl|⟨k,hk,hx⟩)
   ·exact bR.self
   ·obtain⟨c,hc,hp,e,hiff⟩:=hkid k hk
    refine sD ?_ ((hiff x).1 hx);rw[← e];exact bR.step hc (by rw[hp];exact cC (h.units b hb)) (by rw[hp];exact bR.self)
  ·intro hu
   rcases jY h ⟨b,hb,rfl⟩ hu with e|⟨k,hk,hx⟩
   ·exact .inl e
   ·obtain⟨c,hc,hp,e,hiff⟩:=hkid k hk
    exact .inr ⟨k,hk,(hiff x).2 hx⟩
theorem zX {t:Tr} (h:bG t) {b:Br} (hb:b∈t.brs) (x:Int):x∈bA t b.id↔bR t.brs b.id x:=by
 obtain⟨d,hd,_⟩:=gZ h hb;unfold bA;rw[if_neg (cC (h.units b hb))];exact mY h _ b d hb hd b_53 x
end Go.Proofs.YtdochkemaiokfaaGreat







