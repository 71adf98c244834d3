/- Lemmas on what the functions of the program and of the library compute: OpenR, OpenO. The conditions stand at each. -/
import Derived.Test.YtafncfomiolmgaaGreatDoorQ43
import Derived.Test.YtafncfomiolmgaaGreatDoorQ2
import Derived.Test.YtafncfomiolmgaaGreatDoorQ10
namespace Go.Proofs.YtafncfomiolmgaaGreatDoor
open Go.ChangeShapes Go.WideShapes Go.ChangeAt Go.RowKit
theorem spot_none {w:World} {a:Addr} {u:Value} (h:w.cell? a=some u):a.spot=none:=by
 unfold World.cell? at h
 split at h
 ·split at h
  ·cases h
  ·rename_i hs
   cases hz:a.spot with
   | none=>rfl
   | some x=>rw[hz] at hs;simp at hs
 ·cases h
theorem open_in {α:Type} {H:Type} {enc:TypeId × Value→H} {P:Program} {W:World} {k n:Nat} {t e:TypeId} {cs:List Value} {x:DataW H × List MemPlace} (f:α→List Value) (Q:α→Prop) (hk:∀ x,(f x).length=k) (h0:0<k)
  (ht:P.underlying t=some (.slice e)) (hc:P.cellsOf e=k) (hel:∀ n cs x,DataW.trod enc P W 0 (fun _=>true) true n e cs=some x→∃ a,cs=f a∧Q a)
  (hf:DataW.trod enc P W 0 (fun _=>true) true n t cs=some x):∃ v,cs=[v]∧∃ l:List α,Rd W k v (l.flatMap f)∧∀ a∈l,Q a:=by
 rcases Go.Deep.open_slice ht hf with ⟨hn,-⟩|⟨a,len0,cap0,m,n,D,Pl,hn,-,hle,hmx,hm,-,hcell⟩
 ·exact⟨_,hn,[],Rd.nil W k,(fun _ h=>by cases h)⟩
 ·refine⟨_,hn,?_⟩
  simp only [if_true] at hm
  subst hm
  rw[hc] at hcell
  have key:∀ m,m≤len0→∃ l:List α,l.length=m∧(∀ a∈l,Q a)∧∀ i (hi:i<l.length) j,j<k→W.cell? (a.add (i*k+j))=(f l[i])[j]?:=by
   intro m
   induction m with
   | zero=>exact fun _=>⟨[],rfl,(fun _ h=>by cases h),fun i hi=>absurd hi (Nat.not_lt_zero _)⟩
   | succ m ih =>
    intro hm
    obtain⟨l,hl,hQ,hr⟩:=ih b_37
    obtain⟨cs',hcs,htr⟩:=hcell m b_37
    obtain⟨x,rfl,hx⟩:=hel _ _ _ htr
    obtain⟨-,-,hcs⟩:=World.cells?_some hcs
    refine⟨l++[x],by simp[hl],fun b hb=>?_,fun i hi j hj=>?_⟩
    ·rcases List.mem_append.1 hb with h|h
     ·exact hQ b h
     ·rw[List.mem_singleton.1 h];exact hx
    ·by_cases hi':i<l.length
     ·rw[hr i hi' j hj,List.getElem_append_left hi']
     ·have:i=m:=by simp at hi;omega
      subst this
      have:=hcs j hj
      rw[Go.Deep.add_add] at this
      rw[this,List.getElem_append_right b_37]
      simp[hl]
  obtain⟨l,hl,hQ,hr⟩:=key len0 (Nat.le_refl _)
  refine⟨l,⟨some a,len0,_,rfl,by rw[flatMap_len f k hk,hl],hle,hmx,fun hpos=>?_⟩,hQ⟩
  have hz:=hr 0 b_37 0 h0
  have hlt0:0<(f (l[0]'b_37)).length:=by rw[hk];exact h0
  rw[List.getElem?_eq_getElem hlt0] at hz
  have hsp:=spot_none hz
  have ha0:a.add (0*k+0)=a:=by simp[Addr.add]
  rw[ha0] at hsp hz
  obtain⟨b,off,sp⟩:=a
  obtain rfl:sp=none:=hsp
  refine⟨b,off,rfl,World.block_lt_of_cell? W _ hz,fun j u hu=>?_⟩
  have hj:j<len0*k:=by
   have:=(List.getElem?_eq_some_iff.1 hu).1
   rwa [flatMap_len f k hk,hl] at this
  have hdiv:j / k<len0:=Nat.div_lt_of_lt_mul (by rw[Nat.mul_comm];exact hj)
  have hmod:j % k<k:=Nat.mod_lt _ h0
  have e:j=j / k*k+j % k:=by rw[Nat.mul_comm];exact(Nat.div_add_mod j k).symm
  have h1:=hr (j / k) b_37 (j % k) hmod
  rw[add_lit,← e] at h1
  rw[h1,← flatMap_get f k hk l (j / k) (j % k) b_37 hmod,← e]
  exact hu
section
variable {H:Type} {enc:TypeId × Value→H} {W:World}
set_option maxRecDepth 100000 in
theorem in_int {n:Nat} {cs:List Value} {x:DataW H × List MemPlace} (h:DataW.trod enc Tryz.prog W 0 (fun _=>true) true n 3 cs=some x):∃ a:Int,cs=[.int .i64 a]:=by
 obtain⟨a,ha,-⟩:=DataW.trod_int Tryz.underlying3 h
 exact⟨a,ha⟩
set_option maxRecDepth 100000 in
theorem in_slI {n:Nat} {cs:List Value} {x:DataW H × List MemPlace} (h:DataW.trod enc Tryz.prog W 0 (fun _=>true) true n 32 cs=some x):∃ v,cs=[v]∧∃ l,SlI W v l:=by
 obtain⟨v,hv,l,hl,-⟩:=open_in (k:=1) oneI (fun _=>True) (fun _=>rfl) b_37 Tryz.underlying32 (by kernel_rfl) (fun n cs x hx=>by obtain⟨a,ha⟩:=in_int hx;exact⟨a,ha,trivial⟩) h
 exact⟨v,hv,l,hl⟩
theorem choose_list {α β:Type} {R:α→β→Prop}:∀ l:List α,(∀ a∈l,∃ b,R a b)→∃ m:List β,l.length=m.length∧∀ i (h:i<l.length) (h':i<m.length),R l[i] m[i]
 | [],_=>⟨[],rfl,fun _ h=>absurd h (Nat.not_lt_zero _)⟩
 | a::l,h=>by
  obtain⟨b,hb⟩:=h a (List.mem_cons_self ..)
  obtain⟨m,hm,hr⟩:=choose_list l (fun x hx=>h x (List.mem_cons_of_mem _ hx))
  refine⟨b::m,by simp[hm],fun i h1 h2=>?_⟩
  cases i with
  | zero=>exact hb
  | succ i=>exact hr i (by simpa using h1) (by simpa using h2)
set_option maxRecDepth 100000 in
theorem in_br {n:Nat} {cs:List Value} {x:DataW H × List MemPlace} (h:DataW.trod enc Tryz.prog W 0 (fun _=>true) true n 53 cs=some x):∃ c:BrC,cs=c.cells∧∃ a,BrOk W c a:=by
 obtain⟨xs,m,-,-,hl,hlen,hf⟩:=DataW.trod_struct Tryz.underlying53 h
 have hl4:cs.length=6:=hl.trans (by kernel_rfl)
 match xs,hlen with
 | [y0,y1],_ =>
  have h0:=hf 0 _ rfl
  have h1:=hf 1 _ rfl
  match cs,hl4 with
  | [c0,c1,c2,c3,c4,c5],_ =>
   have k0:Tryz.prog.cellsOf 51=5:=by kernel_rfl
   have k4:Tryz.prog.cellsOf 32=1:=by kernel_rfl
   simp only [List.getElem_toArray,List.getElem_cons_zero,List.getElem_cons_succ,k0,k4,List.getElem?_cons_zero,List.getElem?_cons_succ,List.drop_zero,List.drop_succ_cons,List.take_succ_cons,List.take_zero] at h0 h1
   obtain⟨us,m2,-,-,hl2,hlen2,hg⟩:=DataW.trod_struct Tryz.underlying51 h0
   match us,hlen2 with
   | [z0,z1,z2,z3,z4],_ =>
    have g0:=hg 0 _ rfl
    have g1:=hg 1 _ rfl
    have g2:=hg 2 _ rfl
    have g3:=hg 3 _ rfl
    have g4:=hg 4 _ rfl
    have k1:Tryz.prog.cellsOf 3=1:=by kernel_rfl
    have k2:Tryz.prog.cellsOf 9=1:=by kernel_rfl
    simp only [List.getElem_toArray,List.getElem_cons_zero,List.getElem_cons_succ,k1,k2,List.getElem?_cons_zero,List.getElem?_cons_succ,List.drop_zero,List.drop_succ_cons,List.take_succ_cons,List.take_zero] at g0 g1 g2 g3 g4
    obtain⟨a,ha⟩:=in_int g0
    obtain⟨b,hb⟩:=in_int g1
    obtain⟨c,hc⟩:=in_int g2
    obtain⟨d,hd,-⟩:=DataW.trod_string Tryz.underlying9 g3
    obtain⟨e,he,-⟩:=DataW.trod_string Tryz.underlying9 g4
    obtain⟨kv,hx,ks,hks⟩:=in_slI h1
    simp only [List.cons.injEq,and_true] at ha hb hc hd he hx
    subst ha hb hc hd he hx
    exact⟨⟨a,b,c,d,e,c5⟩,rfl,⟨a,b,c,d,e,ks⟩,rfl,hks⟩
set_option maxRecDepth 100000 in
theorem in_slBr {n:Nat} {cs:List Value} {x:DataW H × List MemPlace} (h:DataW.trod enc Tryz.prog W 0 (fun _=>true) true n 33 cs=some x):∃ v,cs=[v]∧∃ l,SlBr W v l:=by
 obtain⟨v,hv,l,hl,hQ⟩:=open_in (k:=6) BrC.cells (fun c=>∃ a,BrOk W c a) (fun _=>rfl) b_37 Tryz.underlying33 (by kernel_rfl) (fun n cs x hx=>in_br hx) h
 obtain⟨m,hm,hr⟩:=choose_list l hQ
 exact⟨v,hv,m,l,hl,hm,hr⟩
set_option maxRecDepth 100000 in
theorem open_tree {base:Nat} {v:Value} {d:DataW H} {ps:List MemPlace} (hval:Value.okWide Tryz.prog W .any base 35 v) (h:DataW.Trod enc Tryz.prog W 0 (fun _=>true) true 35 v d ps):∃ rv bv,v=.agg #[rv,bv]∧∃ t,TrOk W rv bv t:=by
 obtain⟨cs,rfl,-⟩:=okWide_struct Tryz.underlying35 hval
 obtain⟨fuel,hf⟩:=h
 obtain⟨xs,m,-,-,hl,hlen,hf⟩:=DataW.trod_struct Tryz.underlying35 hf
 simp only [Value.cells] at hl hf
 obtain⟨cs⟩:=cs
 have hl4:cs.length=2:=hl.trans (by kernel_rfl)
 match xs,hlen with
 | [y0,y1],_ =>
  have h0:=hf 0 _ rfl
  have h1:=hf 1 _ rfl
  match cs,hl4 with
  | [c0,c1],_ =>
   have k1:Tryz.prog.cellsOf 32=1:=by kernel_rfl
   have k2:Tryz.prog.cellsOf 33=1:=by kernel_rfl
   simp only [List.getElem_toArray,List.getElem_cons_zero,List.getElem_cons_succ,k1,k2,List.getElem?_cons_zero,List.getElem?_cons_succ,List.drop_zero,List.drop_succ_cons,List.take_succ_cons,List.take_zero] at h0 h1
   obtain⟨rv,hrv,rs,hrs⟩:=in_slI h0
   obtain⟨bv,hbv,bs,hbs⟩:=in_slBr h1
   simp only [List.cons.injEq,and_true] at hrv hbv
   subst hrv hbv
   exact⟨c0,c1,rfl,⟨rs,bs⟩,hrs,hbs⟩
end
end Go.Proofs.YtafncfomiolmgaaGreatDoor
namespace Go.Proofs.YtafncfomiolmgaaGreatDoor
open Go.ChangeShapes Go.WideShapes Go.ChangeAt Go.RowKit
section
variable {H:Type} {enc:TypeId × Value→H} {W:World}
set_option maxRecDepth 100000 in
theorem in_origin {n:Nat} {cs:List Value} {x:DataW H × List MemPlace} (h:DataW.trod enc Tryz.prog W 0 (fun _=>true) true n 23 cs=some x):∃ a b c:Int,cs=[.int .i64 a,.int .i64 b,.int .i64 c]:=by
 obtain⟨xs,m,-,-,hl,hlen,hf⟩:=DataW.trod_struct Tryz.underlying23 h
 have hl4:cs.length=3:=hl.trans (by kernel_rfl)
 match xs,hlen with
 | [y0,y1,y2],_ =>
  have h0:=hf 0 _ rfl
  have h1:=hf 1 _ rfl
  have h2:=hf 2 _ rfl
  match cs,hl4 with
  | [c0,c1,c2],_ =>
   have k1:Tryz.prog.cellsOf 3=1:=by kernel_rfl
   simp only [List.getElem_toArray,List.getElem_cons_zero,List.getElem_cons_succ,k1,List.getElem?_cons_zero,List.getElem?_cons_succ,List.drop_zero,List.drop_succ_cons,List.take_succ_cons,List.take_zero] at h0 h1 h2
   obtain⟨a,ha⟩:=in_int h0
   obtain⟨b,hb⟩:=in_int h1
   obtain⟨c,hc⟩:=in_int h2
   simp only [List.cons.injEq,and_true] at ha hb hc
   subst ha hb hc
   exact⟨a,b,c,rfl⟩
set_option maxRecDepth 100000 in
theorem in_opn {n:Nat} {cs:List Value} {x:DataW H × List MemPlace} (h:DataW.trod enc Tryz.prog W 0 (fun _=>true) true n 25 cs=some x):∃ o:Opn,Value.agg cs.toArray=o.agg∧(Lit.int .i64 o.kind).wf=true:=by
 obtain⟨xs,m,-,-,hl,hlen,hf⟩:=DataW.trod_struct Tryz.underlying25 h
 have hl4:cs.length=12:=hl.trans (by kernel_rfl)
 match xs,hlen with
 | [y0,y1,y2,y3,y4,y5,y6,y7,y8,y9],_ =>
  have h0:=hf 0 _ rfl
  have h1:=hf 1 _ rfl
  have h2:=hf 2 _ rfl
  have h3:=hf 3 _ rfl
  have h4:=hf 4 _ rfl
  have h5:=hf 5 _ rfl
  have h6:=hf 6 _ rfl
  have h7:=hf 7 _ rfl
  have h8:=hf 8 _ rfl
  have h9:=hf 9 _ rfl
  match cs,hl4 with
  | [c0,c1,c2,c3,c4,c5,c6,c7,c8,c9,c10,c11],_ =>
   have k1:Tryz.prog.cellsOf 3=1:=by kernel_rfl
   have k2:Tryz.prog.cellsOf 9=1:=by kernel_rfl
   have k3:Tryz.prog.cellsOf 23=3:=by kernel_rfl
   simp only [List.getElem_toArray,List.getElem_cons_zero,List.getElem_cons_succ,k1,k2,k3,List.getElem?_cons_zero,List.getElem?_cons_succ,List.drop_zero,List.drop_succ_cons,List.take_succ_cons,List.take_zero] at h0 h1 h2 h3 h4 h5 h6 h7 h8 h9
   obtain⟨a0,e0⟩:=in_int h0
   obtain⟨a1,e1⟩:=in_int h1
   obtain⟨a2,e2,-,hkw⟩:=DataW.trod_int Tryz.underlying3 h2
   obtain⟨a3,e3⟩:=in_int h3
   obtain⟨a4,e4⟩:=in_int h4
   obtain⟨a5,e5⟩:=in_int h5
   obtain⟨a6,e6⟩:=in_int h6
   obtain⟨a7,e7,-⟩:=DataW.trod_string Tryz.underlying9 h7
   obtain⟨a8,e8,-⟩:=DataW.trod_string Tryz.underlying9 h8
   obtain⟨a9,a10,a11,e9⟩:=in_origin h9
   simp only [List.cons.injEq,and_true] at e0 e1 e2 e3 e4 e5 e6 e7 e8 e9
   obtain⟨rfl,rfl,rfl⟩:=e9
   subst e0 e1 e2 e3 e4 e5 e6 e7 e8
   exact⟨⟨a0,a1,a2,a3,a4,a5,a6,a7,a8,a9,a10,a11⟩,rfl,hkw⟩
set_option maxRecDepth 100000 in
theorem open_opn {base:Nat} {v:Value} {d:DataW H} {ps:List MemPlace} (hval:Value.okWide Tryz.prog W .any base 25 v) (h:DataW.Trod enc Tryz.prog W 0 (fun _=>true) true 25 v d ps):∃ o:Opn,v=o.agg∧(Lit.int .i64 o.kind).wf=true:=by
 obtain⟨cs,rfl,-⟩:=okWide_struct Tryz.underlying25 hval
 obtain⟨fuel,hf⟩:=h
 obtain⟨o,ho,hk⟩:=in_opn hf
 exact⟨o,ho,hk⟩
end
end Go.Proofs.YtafncfomiolmgaaGreatDoor