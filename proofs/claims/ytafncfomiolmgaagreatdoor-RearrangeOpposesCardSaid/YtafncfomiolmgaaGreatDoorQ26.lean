/- Lemmas on what the functions of the program and of the library compute: MapU, MapC, Bh, PlainCg, Tx, To1, PlainEx, F1. The conditions stand at each. -/
import Derived.Test.YtafncfomiolmgaaGreatDoorProg
import Derived.Maps.OwnSet
import Derived.Maps.RangeWalk
import Derived.WideKeyEntry
import Derived.Test.YtafncfomiolmgaaGreatDoorQ2
import Derived.DeepKeys5
import Derived.MapViews
import Derived.Test.YtafncfomiolmgaaGreatDoorQ8
import Derived.Test.YtafncfomiolmgaaGreatDoorQ10
import Derived.Test.YtafncfomiolmgaaGreatDoorQ3
import Derived.Test.YtafncfomiolmgaaGreatDoorQ4
import Derived.Sort.Grow
import Derived.Lib.ItoaLen
import Derived.Laws.Concat
namespace Go.Proofs.YtafncfomiolmgaaGreatDoor
open Go.RowKit
open Go.Maps (Keyed)
open Go.WideMaps (KeyLaw)
open Go.ChangeMaps (setBlock)
section
variable {H:Type} {P:Program} {k e t:TypeId} {w:World} {b n:Nat} {D:DataW H} {q:IntKind} {key:Value} {kl:Lit}
theorem entry_update {es:Array MapEntry} {clock:Nat} {R:Value→Option (DataW H × List MemPlace)} (K:KeyLaw P k) (ht:P.underlying t=some (.map k e)) {z:Value} (hz:∀ u:World,(zeroValue e).run P u=.ok z u) (hb:w.heap[b]? = some (.map es clock)) (F:Go.WideElems.Fit P k R es clock) (hkey:keyOf P k key=some kl)
  {v:Value} {w1:World} (h:(Instr.mapEntry t (.map (some b)) key).run P w=.ok v w1):∃ v0 s,v=.tuple #[v0,s]∧(Instr.lookup t (.map (some b)) key false).run P w=.ok v0 w∧(Instr.mapUpdate t (.map (some b)) key v0).run P w=.ok () w1:=by
 rcases K.find w hkey es.toList F.keys with ⟨h1,h2⟩|⟨j,e0,h1,h2,h3⟩
 ·simp[Instr.mapEntry,run_underlying ht,MapKept.run_getObj_map hb,K.check w false hkey,h1,hz,MapKept.run_setObj_map _ hb,Result.andThen] at h
  obtain⟨rfl,rfl⟩:=h
  refine⟨_,_,rfl,?_,?_⟩
  ·simp[Instr.lookup,run_underlying ht,MapKept.run_getObj_map hb,K.check w _ hkey,h1,hz,Result.andThen]
  ·simp[Instr.mapUpdate,run_underlying ht,MapKept.run_getObj_map hb,K.check w false hkey,h1,MapKept.run_setObj_map _ hb,Result.andThen]
 ·have hj:es[j]? = some e0:=by simpa using h2
  have hmod:es.modify j (fun e=>{ e with key:=key })=es.modify j (fun e'=>{ e' with key:=key,val:=e0.val }):=by
   apply Array.ext'
   rw[Array.toList_modify,Array.toList_modify,Go.ChangeMaps.modify_eq_set _ _ _ _ h2,Go.ChangeMaps.modify_eq_set _ _ _ _ h2]
  simp[Instr.mapEntry,run_underlying ht,MapKept.run_getObj_map hb,K.check w false hkey,h1,hj,h3,K.stays w hkey,MapKept.run_setObj_map _ hb,Result.andThen] at h
  obtain⟨rfl,rfl⟩:=h
  refine⟨_,_,rfl,?_,?_⟩
  ·simp[Instr.lookup,run_underlying ht,MapKept.run_getObj_map hb,K.check w _ hkey,h1,Result.andThen]
  ·simp[Instr.mapUpdate,run_underlying ht,MapKept.run_getObj_map hb,K.check w false hkey,h1,hj,h3,K.stays w hkey,MapKept.run_setObj_map _ hb,Result.andThen,hmod]
theorem bump_map (h:w.ownsMap P k (plainElem P e) b n D) (K:KeyLaw P k) (ht:P.underlying t=some (.map k e)) (he:P.underlying e=some (.int q)) (hz:∀ u:World,(zeroValue e).run P u=.ok (.int q 0) u) (hn:n<maxLen) (hkey:keyOf P k key=some kl) :
  ∃(c:Int) (s:Value) (w1:World),D.atKey kl (.lit (.int q 0))=.lit (.int q c)∧(Lit.int q c).wf=true∧(Instr.lookup t (.map (some b)) key false).run P w=.ok (.int q c) w ∧
   (Instr.mapEntry t (.map (some b)) key).run P w=.ok (.tuple #[.int q c,s]) w1∧(Instr.lookup t (.map (some b)) key false).run P w1=.ok (.int q c) w1 ∧
   ∀ x,(Lit.int q x).wf=true→∃ w2,(Instr.entryStore t (.map (some b)) s (.int q x)).run P w1=.ok () w2∧w2.ownsMap P k (plainElem P e) b (n+1) (D.put kl (.lit (.int q x)))∧w.grownBy w2 (some b):=by
 have KK:=Keyed.of_law K
 obtain⟨c,hlook,hat,hwc⟩:=h.lookup_int KK ht he (hz w) hkey
 have hM:=h.isMap
 have hup:=fun x (hx:(Lit.int q x).wf=true)=>h.update (t:=t) KK ht hn hkey (plainElem_int (H:=H) he hx)
 obtain⟨es,clock,hb,F,hs,hD⟩:=h
 obtain⟨v0,st,es1,clock1,hme,-,hst⟩:=Go.WideElems.entry_then_store K ht hz hb F hkey
 obtain⟨v1,s1,e1,hl1,hu1⟩:=entry_update K ht hz hb F hkey hme
 rw[hlook] at hl1
 injection hl1 with hl1 _
 subst hl1
 injection e1 with e1
 have e2:v0=.int q c∧goInt st=s1:=by simpa using e1
 obtain⟨rfl,-⟩:=e2
 obtain⟨w1',hr1,ho1,hg1⟩:=hup c hwc
 rw[hu1] at hr1
 injection hr1 with _ hr1
 subst hr1
 obtain⟨c2,hl2,hat2,-⟩:=ho1.lookup_int KK ht he (hz _) hkey
 rw[Maps.atKey_put_same hM (KK.key hkey)] at hat2
 have hc2:c2=c:=by
  injection hat2 with hat2
  injection hat2 with _ hat2
  exact hat2.symm
 subst hc2
 refine⟨c2,goInt st,_,hat,hwc,hlook,hme,hl2,fun x hx=>?_⟩
 have hb1:(setBlock w b (.map es1 clock1)).heap[b]? = some (.map es1 clock1):=ChangeMaps.heap_setBlock_same hb _
 obtain⟨es',clock',hr3,hr4⟩:=hst _ (.int q x) hb1
 obtain⟨w3,hr5,ho5,hg5⟩:=hup x hx
 rw[hr4] at hr5
 injection hr5 with _ hr5
 have hsame:setBlock (setBlock w b (.map es1 clock1)) b (.map es' clock')=setBlock w b (.map es' clock'):=by simp[setBlock]
 rw[hsame] at hr3
 rw[hr5] at hr3
 exact⟨w3,hr3,ho5,hg5⟩
end
end Go.Proofs.YtafncfomiolmgaaGreatDoor
namespace Go.Proofs.YtafncfomiolmgaaGreatDoor
open Go.RowKit Go.Maps
def unitV (u:Br):Value:=.agg #[.int .i64 u.id,.int .i64 u.parent,.int .i64 u.level,.string u.title,.string u.mark]
structure WfU (u:Br):Prop where
 id:(Lit.int .i64 u.id).wf=true
 parent:(Lit.int .i64 u.parent).wf=true
 level:(Lit.int .i64 u.level).wf=true
 title:u.title.size≤maxLen
 mark:u.mark.size≤maxLen
 kids:u.kids=[]
def kU (u:Br):Lit:=.string (keyBytes [.int .i64 u.id,.int .i64 u.parent,.int .i64 u.level,.string u.title.data.toList,.string u.mark.data.toList])
theorem rowU:51<Tryz.prog.types.size:=of_decide_eq_true (by kernel_rfl)
theorem keyTypeU:Tryz.prog.keyType 51=true:=by kernel_rfl
theorem lawU:WideMaps.KeyLaw Tryz.prog 51:=deep_law_gate (by kernel_rfl) (of_decide_eq_true (by kernel_rfl)) rowU keyTypeU (by kernel_rfl)
theorem keyedU:Keyed Tryz.prog 51:=Keyed.of_law lawU
theorem cellsU:Tryz.prog.cellsOf 51=5:=by kernel_rfl
theorem cellsI:Tryz.prog.cellsOf 3=1:=by kernel_rfl
theorem cellsS:Tryz.prog.cellsOf 9=1:=by kernel_rfl
theorem litsI (n:Nat) (c:Value):Tryz.prog.keyLits (n+1) 3 [c]=(match c with | .int q' x=>if q'=.i64∧(Lit.int .i64 x).wf=true then some [.int .i64 x] else none|_=>none):=by
 unfold Program.keyLits
 rw[Tryz.underlying3]
 cases c<;>rfl
theorem litsS (n:Nat) (c:Value):Tryz.prog.keyLits (n+1) 9 [c]=(match c with | .string s=>if s.size≤maxLen then some [.string s.data.toList] else none|_=>none):=by
 unfold Program.keyLits
 rw[Tryz.underlying9]
 cases c<;>rfl
theorem litsU (n:Nat) (a b c d e:Value):Tryz.prog.keyLits (n+1+1) 51 [a,b,c,d,e] =
  (((Tryz.prog.keyLits (n+1) 3 [a]).bind fun x1=>(Tryz.prog.keyLits (n+1) 3 [b]).bind fun x2=>(Tryz.prog.keyLits (n+1) 3 [c]).bind fun x3=>(Tryz.prog.keyLits (n+1) 9 [d]).bind fun x4=>(Tryz.prog.keyLits (n+1) 9 [e]).bind fun x5=>some [x1,x2,x3,x4,x5]).map List.flatten):=by
 conv=>lhs;unfold Program.keyLits
 rw[Tryz.underlying51]
 dsimp only
 rw[cellsU]
 rw[if_pos ⟨rfl,by decide +kernel⟩]
 simp only [List.mapM_cons,List.mapM_nil,cellsI,cellsS,List.drop_zero,List.drop_succ_cons,List.take_succ_cons,List.take_zero]
 generalize Tryz.prog.keyLits (n+1) 3 [a]=oa
 generalize Tryz.prog.keyLits (n+1) 3 [b]=ob
 generalize Tryz.prog.keyLits (n+1) 3 [c]=oc
 generalize Tryz.prog.keyLits (n+1) 9 [d]=od
 generalize Tryz.prog.keyLits (n+1) 9 [e]=oe
 cases oa<;>cases ob<;>cases oc<;>cases od<;>cases oe<;>rfl
theorem keyOfU (v:Value):keyOf Tryz.prog 51 v=if v.formed Tryz.prog 51=true then(Tryz.prog.keyLits (Tryz.prog.types.size+1) 51 v.cells.toList).map (fun ls=>Lit.string (keyBytes ls)) else none:=by
 unfold keyOf
 rw[Tryz.underlying51]
 dsimp only
 rw[keyTypeU,Bool.true_and]
theorem formedU (v:Value):v.formed Tryz.prog 51=true↔∃ a b c d e,v=.agg #[a,b,c,d,e]:=by
 unfold Value.formed
 rw[Tryz.underlying51]
 cases v with
 | agg cs =>
  dsimp only
  rw[cellsU]
  constructor
  ·intro hf
   have hs:cs.size=5:=by simpa using hf
   obtain⟨l⟩:=cs
   match l,hs with
   | [a,b,c,d,e],_=>exact⟨a,b,c,d,e,rfl⟩
  ·rintro ⟨a,b,c,d,e,h⟩
   injection h with h
   subst h
   rfl
 | _ =>
  constructor
  ·intro h
   cases h
  ·rintro ⟨a,b,c,d,e,h⟩
   cases h
theorem sizeTT:∃ n,Tryz.prog.types.size+1=n+1+1:=⟨Tryz.prog.types.size-1,by have:=rowU;omega⟩
theorem keyU (u:Br) (h:WfU u):keyOf Tryz.prog 51 (unitV u)=some (kU u):=by
 obtain⟨n,hn⟩:=sizeTT
 obtain⟨h1,h2,h3,h4,h5,-⟩:=h
 rw[keyOfU,if_pos ((formedU (unitV u)).2 ⟨_,_,_,_,_,rfl⟩),hn,show(unitV u).cells.toList=[.int .i64 u.id,.int .i64 u.parent,.int .i64 u.level,.string u.title,.string u.mark] from rfl,litsU,litsI,litsI,litsI,litsS,litsS]
 simp only [h1,h2,h3,h4,h5,and_self,if_true,Option.bind_some,Option.map_some]
 rfl
theorem litsI_inv {n:Nat} {c:Value} {l:List Lit} (h:Tryz.prog.keyLits (n+1) 3 [c]=some l):∃ x,c=.int .i64 x∧(Lit.int .i64 x).wf=true∧l=[.int .i64 x]:=by
 rw[litsI] at h
 split at h
 ·split at h
  ·rename_i hx
   obtain⟨rfl,hw⟩:=hx
   exact⟨_,rfl,hw,(Option.some.inj h).symm⟩
  ·cases h
 ·cases h
theorem litsS_inv {n:Nat} {c:Value} {l:List Lit} (h:Tryz.prog.keyLits (n+1) 9 [c]=some l):∃ s,c=.string s∧s.size≤maxLen∧l=[.string s.data.toList]:=by
 rw[litsS] at h
 split at h
 ·split at h
  ·rename_i hx
   exact⟨_,rfl,hx,(Option.some.inj h).symm⟩
  ·cases h
 ·cases h
theorem keyU_inv {key:Value} {kl:Lit} (h:keyOf Tryz.prog 51 key=some kl):∃ u:Br,WfU u∧key=unitV u∧kl=kU u:=by
 obtain⟨n,hn⟩:=sizeTT
 rw[keyOfU] at h
 split at h
 case isFalse=>cases h
 rename_i hf
 obtain⟨a,b,c,d,e,rfl⟩:=(formedU _).1 hf
 rw[hn,show(Value.agg #[a,b,c,d,e]).cells.toList=[a,b,c,d,e] from rfl,litsU] at h
 cases h1:Tryz.prog.keyLits (n+1) 3 [a] with
 | none=>simp[h1] at h
 | some l1 =>
 cases h2:Tryz.prog.keyLits (n+1) 3 [b] with
 | none=>simp[h1,h2] at h
 | some l2 =>
 cases h3:Tryz.prog.keyLits (n+1) 3 [c] with
 | none=>simp[h1,h2,h3] at h
 | some l3 =>
 cases h4:Tryz.prog.keyLits (n+1) 9 [d] with
 | none=>simp[h1,h2,h3,h4] at h
 | some l4 =>
 cases h5:Tryz.prog.keyLits (n+1) 9 [e] with
 | none=>simp[h1,h2,h3,h4,h5] at h
 | some l5 =>
 rw[h1,h2,h3,h4,h5] at h
 obtain⟨x1,rfl,w1,rfl⟩:=litsI_inv h1
 obtain⟨x2,rfl,w2,rfl⟩:=litsI_inv h2
 obtain⟨x3,rfl,w3,rfl⟩:=litsI_inv h3
 obtain⟨x4,rfl,w4,rfl⟩:=litsS_inv h4
 obtain⟨x5,rfl,w5,rfl⟩:=litsS_inv h5
 exact⟨⟨x1,x2,x3,x4,x5,[]⟩,⟨w1,w2,w3,w4,w5,rfl⟩,rfl,(Option.some.inj h).symm⟩
theorem keyU_kl {u:Br} (h:WfU u) {kl:Lit} (hk:keyOf Tryz.prog 51 (unitV u)=some kl):kl=kU u:=by
 rw[keyU u h] at hk
 exact(Option.some.inj hk).symm
theorem kU_inj {u v:Br} (hu:WfU u) (hv:WfU v) (h:kU u=kU v):u=v:=by
 have h1:=keyU u hu
 have h2:=keyU v hv
 rw[← h] at h2
 have h3:=keyedU.inj h1 h2
 have k1:=hu.kids
 have k2:=hv.kids
 obtain⟨a1,a2,a3,a4,a5,a6⟩:=u
 obtain⟨b1,b2,b3,b4,b5,b6⟩:=v
 simp only [unitV,Value.agg.injEq,Array.mk.injEq,List.cons.injEq,Value.int.injEq,Value.string.injEq,true_and,and_true] at h3
 obtain⟨rfl,rfl,rfl,rfl,rfl⟩:=h3
 dsimp only at k1 k2
 rw[k1,k2]
theorem kU_key (u:Br):WideAt.IsKeyLit (kU u):=trivial
structure CntU (D:DataW Unit) (U:List Br):Prop where
 map:IsMap D
 at_:∀ u,WfU u→D.atKey (kU u) (.lit (.int .i64 0))=.lit (.int .i64 (U.count u))
 has_:∀ u∈U,has D (kU u)=true
 only:∀ kl,has D kl=true→∃ u∈U,kl=kU u
theorem CntU.nil:CntU (.map []) []:=⟨isMap_empty,fun _ _=>rfl,fun _ h=>(by cases h),fun _ h=>(by cases h)⟩
theorem CntU.bump {D:DataW Unit} {U:List Br} (h:CntU D U) (hU:∀ v∈U,WfU v) {u:Br} (hu:WfU u):CntU (D.put (kU u) (.lit (.int .i64 ((U.count u:Nat)+1:Int)))) (U++[u]):=by
 refine⟨h.map.put _ _,fun v hv=>?_,fun v hv=>?_,fun kl hk=>?_⟩
 ·by_cases e:v=u
  ·subst e
   rw[atKey_put_same h.map (kU_key _),List.count_append]
   simp
  ·rw[atKey_put_other (fun e2=>e (kU_inj hv hu e2)),h.at_ v hv,List.count_append]
   have:List.count v [u]=0:=List.count_eq_zero.2 (by simpa using e)
   rw[this]
   rfl
 ·by_cases e:v=u
  ·subst e
   exact has_put_same h.map (kU_key _) _
  ·have hv2:v∈U:=by
    rcases List.mem_append.1 hv with h1|h1
    ·exact h1
    ·exact absurd (by simpa using h1) e
   rw[has_put_other (fun e2=>e (kU_inj (hU v hv2) hu e2))]
   exact h.has_ v hv2
 ·by_cases e:kl=kU u
  ·exact⟨u,by simp,e⟩
  ·rw[has_put_other e] at hk
   obtain⟨v,hv,e2⟩:=h.only kl hk
   exact⟨v,List.mem_append_left _ hv,e2⟩
structure CollU (U:List Br) (left:Lit→Bool) (L:List Br):Prop where
 mem:∀ u,u∈L↔(U.count u=1∧left (kU u)=false)
theorem CollU.start {D:DataW Unit} {U:List Br} (h:CntU D U):CollU U (has D) []:=⟨fun u=>by
 constructor
 ·intro h;cases h
 ·rintro ⟨h1,h2⟩
  have hu:u∈U:=List.count_pos_iff.1 b_37
  rw[h.has_ u hu] at h2
  cases h2⟩
theorem CollU.step {U L:List Br} {left:Lit→Bool} (h:CollU U left L) (hU:∀ v∈U,WfU v) {u:Br} (hu:WfU u):CollU U (fun z=>left z && !z.sameKey (kU u)) (if U.count u=1 then L++[u] else L):=by
 have key:∀ v,v∈U→((kU v).sameKey (kU u)=true↔v=u):=fun v hv=>by
  constructor
  ·exact fun e=>kU_inj (hU v hv) hu (WideAt.sameKey_eq e)
  ·intro e
   rw[e]
   simp[kU,Lit.sameKey]
 refine⟨fun v=>?_⟩
 by_cases hv:v∈U
 ·have hk:=key v hv
  by_cases e:v=u
  ·subst e
   rw[hk.2 rfl]
   split
   ·rename_i h1
    simp[h1]
   ·rename_i h1
    rw[h.mem v]
    simp[h1]
  ·have hk2:(kU v).sameKey (kU u)=false:=by
    cases hs:(kU v).sameKey (kU u)
    ·rfl
    ·exact absurd (hk.1 hs) e
   rw[hk2]
   split
   ·rw[List.mem_append,h.mem v]
    simp[e]
   ·rw[h.mem v]
    simp
 ·have h0:U.count v=0:=List.count_eq_zero.2 hv
  have hne:v∉L:=fun hl=>by
   have:=((h.mem v).1 hl).1
   omega
  have hcu:U.count u=1→v≠u:=fun h1 e=>by
   subst e
   omega
  split
  ·rename_i h1
   simp[hne,hcu h1,h0]
  ·simp[hne,h0]
theorem CollU.done {U L:List Br} {left:Lit→Bool} (h:CollU U left L) (hl:∀ kl,left kl=false) (n:Int):n∈L.map Br.id↔∃ u,U.count u=1∧u.id=n:=by
 simp only [List.mem_map,h.mem,hl,and_true]
end Go.Proofs.YtafncfomiolmgaaGreatDoor
namespace Go.Proofs.YtafncfomiolmgaaGreatDoor
open Go.RowKit
theorem behind_idx (n:Int):∀ {l:List Int},n∈l→∃ k,∃ hk:k<l.length,l[k]=n∧(∀ i (hi:i<l.length),i<k→l[i]≠n)∧behindF n l=if h:k+1<l.length then l[k+1] else 0
 | [],h=>by cases h
 | x::r,h=>by
  by_cases hx:x=n
  ·refine⟨0,Nat.succ_pos _,hx,fun i _ hi=>absurd hi (Nat.not_lt_zero _),?_⟩
   unfold behindF
   rw[if_pos hx]
   cases r with
   | nil=>rfl
   | cons y s=>simp
  ·have hr:n∈r:=by
    rcases List.mem_cons.1 h with e|h
    ·exact absurd e.symm hx
    ·exact h
   obtain⟨k,hk,e1,e2,e3⟩:=behind_idx n hr
   refine⟨k+1,Nat.succ_lt_succ hk,by simpa using e1,fun i hi hik=>?_,?_⟩
   ·cases i with
    | zero=>exact hx
    | succ i=>exact e2 i (Nat.lt_of_succ_lt_succ hi) b_37
   ·unfold behindF
    rw[if_neg hx,e3]
    simp
theorem own_child {t:Tr} (h:SoundM t) {u:Br} (hu:u∈t.brs):u.id∈childs t u.parent∧topR t.brs u.parent=0:=by
 have hn:u.parent=0∨∃ b∈t.brs,b.id=u.parent:=by
  have hp:=h.placed u hu
  unfold BrPlaced at hp
  by_cases h0:u.parent=0
  ·exact .inl h0
  ·rw[if_neg h0] at hp
   obtain⟨p,hp,-⟩:=hp
   exact .inr ⟨p,(find_in hp).1,(find_in hp).2⟩
 refine⟨(childs_mem h hn).2 ⟨u,hu,rfl,rfl⟩,?_⟩
 unfold topR knownF
 rcases hn with h0|⟨b,hb,hid⟩
 ·rw[if_pos h0]
 ·have:=find_byid h.asc hb
  rw[hid] at this
  simp[this]
theorem size_allocB (w:World) (o:Obj):(w.alloc o).heap.size=w.heap.size+1:=by simp
set_option maxHeartbeats 2000000 in
theorem rBehind (t:Tr) (u:Br) (rv bv:Value) (w:World) (hE:Env w) (hr:SlI w rv t.roots) (hv:SlBr w bv t.brs) (hf:FewBr t.brs) (hrl:t.roots.length≤1000000) (hT:RightT t) (hu:u∈t.brs) :
  Calls Tryz.prog 61 #[.agg #[rv,bv],unitV u] w fun e w'=>e=.returned (.int .i64 (behindF u.id (childs t u.parent)))∧Grew w w':=by
 have hs:=own_child (right_sound hT) hu
 have kK:=fun W (hW:Grew w W)=>tKidsX t.roots t.brs u.parent rv bv W (hE.mono hW) (hr.mono hW) (hv.mono hW) hf hrl
 have hres:kidsR ⟨t.roots,t.brs⟩ u.parent=(childs t u.parent,0):=by
  unfold kidsR
  rw[if_pos (show RightT ⟨t.roots,t.brs⟩ from hT),if_pos hs.2]
 rw[hres] at kK
 obtain⟨k,hk,e1,e2,e3⟩:=behind_idx u.id hs.1
 have hix:=idxP_hit (fun y=>u.id == y) _ k hk (by rw[e1];simp) (fun i hi hik=>by
  simp only [beq_eq_false_iff_ne]
  exact fun e=>e2 i hi hik e.symm)
 have KI:=uZ (fun v W hv=>indexI (childs t u.parent) u.id v W hv)
 rw[hix] at KI
 have hR1:∀ h:k+1<(childs t u.parent).length,behindF u.id (childs t u.parent)=(childs t u.parent)[k+1]:=fun h=>by rw[e3,dif_pos h]
 have hR2:¬ k+1<(childs t u.parent).length→behindF u.id (childs t u.parent)=0:=fun h=>by rw[e3,dif_neg h]
 generalize behindF u.id (childs t u.parent)=R at hR1 hR2 ⊢
 clear e3 hix e1 e2 hres hs hE hr hv hf hrl hT hu
 have KK:=uZ kK
 generalize childs t u.parent=L at hk KI KK hR1 hR2 ⊢
 have HR1:=uZ hR1
 have HR2:=uZ hR2
 clear hR1 hR2
 clear kK
 unfold unitV
 go_enter Tryz.func61,Tryz.ntmps61
 go_wp2_with fail
 refine(KK.out _ b_29).mono ?_
 rintro e w1 ⟨v1,rfl,s1,g1⟩
 have b0:=yQ g1 0 _ rfl
 have b1:=yQ g1 1 _ rfl
 rw[size_allocB] at b0 b1
 have HG1:=uZ (show Grew w w1 from(((uX w).alloc _).alloc _).trans g1)
 obtain⟨A,c,rfl,hlc,hc,hrd⟩:=s1.open_
 have HRD:=uZ hrd
 have HS1:=uZ s1
 unfold maxLen at hc
 clear g1 hrd s1
 dsimp only
 go_wp2_with fail
 refine(KI.out _ _ HS1.out).mono ?_
 rintro e w2 ⟨rfl,rfl⟩
 dsimp only
 obtain⟨bb,off,rfl,-,hcell⟩:=HRD.out b_37
 by_cases hn:k+1<L.length
 ·obtain rfl:=HR1.out hn
  have hc1:=hcell w1 (uX _) (k+1) hn
  have hn2:(k:Int)+1<(L.length:Int):=by omega
  have hn3:((k:Int)+1).toNat=k+1:=by omega
  have hn4:(0:Int)≤(k:Int)+1:=by omega
  go_wp2
  go_ret
  exact⟨rfl,HG1.out⟩
 ·obtain rfl:=HR2.out hn
  have hn2:¬ ((k:Int)+1<(L.length:Int)):=by omega
  go_wp2
  go_ret
  exact⟨rfl,HG1.out⟩
end Go.Proofs.YtafncfomiolmgaaGreatDoor
namespace Go.Proofs.YtafncfomiolmgaaGreatDoor
open Go.RowKit
def bothU (a b:Tr):List Br:=a.brs.map core++b.brs.map core
theorem core_asc {l:List Br} (h:idsAsc l):idsAsc (l.map core):=List.pairwise_map.2 h
theorem asc_nodup {l:List Br} (h:idsAsc l):l.Nodup:=List.Pairwise.imp (fun {x y} hxy e=>by rw[e] at hxy;omega) h
theorem count_asc {l:List Br} (h:idsAsc l) (u:Br):l.count u=if u∈l then 1 else 0:=by
 have h1:=List.nodup_iff_count.1 (asc_nodup h) u
 by_cases hu:u∈l
 ·rw[if_pos hu]
  have:=List.count_pos_iff.2 hu
  omega
 ·rw[if_neg hu]
  exact List.count_eq_zero.2 hu
theorem chg_of_count {a b:Tr} (ha:idsAsc a.brs) (hb:idsAsc b.brs) {l:List Int} (hl:Asc l) (hm:∀ n,n∈l↔∃ u,(bothU a b).count u=1∧u.id=n):ChgIs a b l:=by
 refine⟨hl,fun n=>?_⟩
 have hA:=core_asc ha
 have hB:=core_asc hb
 rw[hm]
 have hc:∀ u,(bothU a b).count u=1↔¬ (u∈a.brs.map core↔u∈b.brs.map core):=by
  intro u
  unfold bothU
  rw[List.count_append,count_asc hA,count_asc hB]
  by_cases h1:u∈a.brs.map core<;>by_cases h2:u∈b.brs.map core<;>simp[h1,h2]
 constructor
 ·rintro ⟨u,h1,rfl⟩ he
  refine(hc u).1 h1 ?_
  have h2:=find_iff hA u.id u
  have h3:=find_iff hB u.id u
  rw[he] at h2
  constructor
  ·exact fun hx=>(h3.1 (h2.2 ⟨hx,rfl⟩)).1
  ·exact fun hx=>(h2.1 (h3.2 ⟨hx,rfl⟩)).1
 ·intro hne
  refine Classical.byContradiction fun hno=>hne ?_
  have key:∀ u,u.id=n→(u∈a.brs.map core↔u∈b.brs.map core):=fun u hu=>Classical.byContradiction fun hx=>hno ⟨u,(hc u).2 hx,hu⟩
  cases h1:brFind (a.brs.map core) n with
  | some u =>
   have hu:=(find_iff hA n u).1 h1
   exact((find_iff hB n u).2 ⟨(key u hu.2).1 hu.1,hu.2⟩).symm
  | none =>
   cases h2:brFind (b.brs.map core) n with
   | none=>rfl
   | some u =>
    have hu:=(find_iff hB n u).1 h2
    rw[(find_iff hA n u).2 ⟨(key u hu.2).2 hu.1,hu.2⟩] at h1
    cases h1
end Go.Proofs.YtafncfomiolmgaaGreatDoor
namespace Go.Proofs.YtafncfomiolmgaaGreatDoor
open Go.RowKit
theorem grew_grow (w:World) (k:Nat) (os:Array Obj):Grew w (Go.Sort.grow (w.drewN k) os):=by
 refine⟨rfl,rfl,rfl,by simp,fun b hb=>?_⟩
 rw[Go.Sort.heap_grow_old _ _ (by simpa using hb)]
 rfl
theorem itoa_any (n:Int) (h0 : -9223372036854775808≤n) (h1:n≤9223372036854775807) (w:World) (hE:Env w):Calls Tryz.prog 39 #[.int .i64 n] w fun e w'=>e=.returned (.string ⟨(Lib.itoa n).toArray⟩)∧Grew w w' :=
 (Tryz.strconv_Itoa n h0 h1 w hE.2).mono fun _ _ ⟨he,k,os,hw⟩=>⟨he,by rw[hw];exact grew_grow w k os⟩
def itoaB (n:Int):ByteArray:=⟨(Lib.itoa n).toArray⟩
theorem itoaB_size (n:Int) (h0:0≤n) (h1:n≤1073741824):(itoaB n).size≤21:=by
 have:=Lib.itoa_length_le n b_37 b_37
 simpa [itoaB,ByteArray.size] using this
theorem cat_size {a b:ByteArray} {m n:Nat} (ha:a.size≤m) (hb:b.size≤n):(a++b).size≤m+n:=by
 rw[ByteArray.size_append]
 omega
theorem cat_run {a b:ByteArray} {m n:Nat} (ha:a.size≤m) (hb:b.size≤n) (hm:m≤1000) (hn:n≤1000):∀ W:World,(Op.stringOp .add a b).run Tryz.prog W=.ok (.string (a++b)) W:=fun W=>run_string_add W a b b_37 b_37
end Go.Proofs.YtafncfomiolmgaaGreatDoor
namespace Go.Proofs.YtafncfomiolmgaaGreatDoor
open Go.RowKit
def placeB (o:Opn):ByteArray:=((⟨#[32,98,101,108,111,119,32]⟩++itoaB o.parent)++⟨#[32,98,101,102,111,114,101,32]⟩)++itoaB o.before
def text1 (o:Opn):ByteArray:=((((((⟨#[99,114,101,97,116,101,32]⟩++itoaB o.unit)++⟨#[32,108,101,118,101,108,32]⟩)++itoaB o.level)++placeB o)++⟨#[32]⟩)++o.title)
def text4 (o:Opn):ByteArray:=(⟨#[109,97,114,107,32]⟩++itoaB o.unit)
def textOp (o:Opn):ByteArray :=
 if o.kind=1 then(if emptyS o.mark=true then text1 o else text1 o++((⟨#[32,91]⟩++o.mark)++⟨#[93]⟩))
 else if o.kind=2 then(⟨#[109,111,118,101,32]⟩++itoaB o.unit)++placeB o
 else if o.kind=3 then((⟨#[114,101,110,97,109,101,32]⟩++itoaB o.unit)++⟨#[32]⟩)++o.title
 else if o.kind=4 then(if emptyS o.mark=true then text4 o else(text4 o++⟨#[32]⟩)++o.mark)
 else if o.kind=5 then⟨#[114,101,109,111,118,101,32]⟩++itoaB o.unit
 else⟨#[117,110,100,111,32]⟩++itoaB o.unit
def textR (o:Opn):ByteArray × Int:=if formedO o=true then(textOp o,0) else(⟨#[]⟩,1)
structure FormedFacts (o:Opn):Prop where
 unit:1≤o.unit∧o.unit≤1073741824
 parent:0≤o.parent∧o.parent≤1073741824
 before:0≤o.before∧o.before≤1073741824
 level:o.kind=1→1≤o.level∧o.level≤4
 title:o.kind=1∨o.kind=3→o.title.size≤64
 mark:o.kind=1∨o.kind=4→o.mark.size≤64∧allIn 33 126 o.mark.data.toList=true
 kind:o.kind=1∨o.kind=2∨o.kind=3∨o.kind=4∨o.kind=5∨o.kind=6
theorem nameF_size {s:ByteArray} (h:nameF s.data.toList=true):s.size≤64:=by
 unfold nameF at h
 simp only [Bool.and_eq_true,decide_eq_true_eq] at h
 have:=h.1.2
 rw[size_data] at this
 exact this
theorem markE_size {s:ByteArray} (h:markE s.data.toList=true):s.size≤64∧allIn 33 126 s.data.toList=true:=by
 unfold markE at h
 simp only [Bool.and_eq_true,decide_eq_true_eq] at h
 have:=h.1
 rw[size_data] at this
 exact⟨this,h.2⟩
theorem formed_facts {o:Opn} (h:formedO o=true):FormedFacts o:=by
 unfold formedO at h
 simp only [Bool.and_eq_true] at h
 obtain⟨-,-,hu,hk⟩:=h
 unfold kindF at hk
 have hP:placeF o=true→(0≤o.parent∧o.parent≤1073741824)∧(0≤o.before∧o.before≤1073741824):=fun h=>by
  unfold placeF at h
  simp only [Bool.and_eq_true,within_iff] at h
  exact h
 have hN:noPlace o=true→(0≤o.parent∧o.parent≤1073741824)∧(0≤o.before∧o.before≤1073741824):=fun h=>by
  unfold noPlace at h
  simp only [Bool.and_eq_true,beq_iff_eq] at h
  omega
 have hU:=(within_iff _ _ _).1 hu
 by_cases h1:o.kind=1
 ·rw[if_pos h1] at hk
  simp only [Bool.and_eq_true] at hk
  obtain⟨k1,k2,k3,k4,-⟩:=hk
  exact⟨hU,(hP k1).1,(hP k1).2,fun _=>(within_iff _ _ _).1 k2,fun _=>nameF_size k3,fun _=>markE_size k4,.inl h1⟩
 rw[if_neg h1] at hk
 by_cases h2:o.kind=2
 ·rw[if_pos h2] at hk
  simp only [Bool.and_eq_true] at hk
  exact⟨hU,(hP hk.1).1,(hP hk.1).2,fun h=>absurd h h1,fun h=>by omega,fun h=>by omega,.inr (.inl h2)⟩
 rw[if_neg h2] at hk
 by_cases h3:o.kind=3
 ·rw[if_pos h3] at hk
  simp only [Bool.and_eq_true] at hk
  exact⟨hU,(hN hk.2.1).1,(hN hk.2.1).2,fun h=>absurd h h1,fun _=>nameF_size hk.1,fun h=>by omega,.inr (.inr (.inl h3))⟩
 rw[if_neg h3] at hk
 by_cases h4:o.kind=4
 ·rw[if_pos h4] at hk
  simp only [Bool.and_eq_true] at hk
  exact⟨hU,(hN hk.2.1).1,(hN hk.2.1).2,fun h=>absurd h h1,fun h=>by omega,fun _=>markE_size hk.1,.inr (.inr (.inr (.inl h4)))⟩
 rw[if_neg h4] at hk
 by_cases h5:o.kind=5∨o.kind=6
 ·rw[if_pos h5] at hk
  simp only [Bool.and_eq_true] at hk
  exact⟨hU,(hN hk.1).1,(hN hk.1).2,fun h=>absurd h h1,fun h=>by omega,fun h=>by omega,.inr (.inr (.inr (.inr h5)))⟩
 ·rw[if_neg h5] at hk
  cases hk
theorem emptyS_iff {s:ByteArray}:emptyS s=true↔s=⟨#[]⟩:=by
 unfold emptyS
 rw[ByteArray.toList_eq]
 constructor
 ·intro h
  obtain⟨⟨a⟩⟩:=s
  have:a=[]:=by simpa using h
  rw[this]
 ·intro h
  rw[h]
  rfl
theorem trim_space (s:List UInt8):Lib.trimSuffix (s++[32]) [32]=s:=by
 unfold Lib.trimSuffix Lib.hasSuffix
 rw[if_pos (by rw[List.isSuffixOf_iff_suffix];exact⟨s,rfl⟩)]
 simp
theorem trim_other (s:List UInt8) (x:UInt8) (h:x≠32):Lib.trimSuffix (s++[x]) [32]=s++[x]:=by
 unfold Lib.trimSuffix Lib.hasSuffix
 rw[if_neg]
 rw[List.isSuffixOf_iff_suffix]
 rintro ⟨r,hr⟩
 have:=(List.append_inj' hr rfl).2
 injection this with h1 _
 exact h h1.symm
theorem data_app (a b:ByteArray):(a++b).data.toList=a.data.toList++b.data.toList:=by
 rw[ByteArray.data_append,Array.toList_append]
theorem mk_toList (a:ByteArray):(⟨a.data.toList.toArray⟩:ByteArray)=a:=by
 obtain⟨⟨l⟩⟩:=a
 rfl
theorem trim_mark (o:Opn) (h:allIn 33 126 o.mark.data.toList=true) :
  (⟨(Lib.trimSuffix ((text4 o++⟨#[32]⟩)++o.mark).data.toList (⟨#[32]⟩:ByteArray).data.toList).toArray⟩:ByteArray)=if emptyS o.mark=true then text4 o else(text4 o++⟨#[32]⟩)++o.mark:=by
 rw[data_app,data_app,show(⟨#[32]⟩:ByteArray).data.toList=[32] from rfl]
 by_cases he:emptyS o.mark=true
 ·rw[if_pos he,emptyS_iff.1 he]
  show(⟨(Lib.trimSuffix ((text4 o).data.toList++[32]++[]) [32]).toArray⟩:ByteArray)=_
  rw[List.append_nil,trim_space,mk_toList]
 ·rw[if_neg he]
  rcases List.eq_nil_or_concat o.mark.data.toList with h0|⟨l,x,hx⟩
  ·refine absurd (emptyS_iff.2 ?_) he
   rw[← mk_toList o.mark,h0]
  ·have hx32:x≠32:=by
    rw[hx] at h
    unfold allIn at h
    rw[List.all_eq_true] at h
    have:=h x b_38
    intro e
    rw[e] at this
    exact absurd this b_36
   have h2:=mk_toList ((text4 o++⟨#[32]⟩)++o.mark)
   rw[hx,List.concat_eq_append,← List.append_assoc,trim_other _ _ hx32]
   rw[data_app,data_app,hx,List.concat_eq_append,← List.append_assoc] at h2
   exact h2
end Go.Proofs.YtafncfomiolmgaaGreatDoor
namespace Go.Proofs.YtafncfomiolmgaaGreatDoor
open Go.RowKit
theorem sort25:sortI [2,5]=[2,5]:=by
 unfold sortI
 exact List.mergeSort_of_pairwise b_36
def xB:List Br:=[⟨1,0,1,⟨#[84,111,119,110]⟩,⟨#[84]⟩,[2,5]⟩,⟨2,1,2,⟨#[65,99,116,115]⟩,⟨#[]⟩,[9]⟩,⟨5,1,2,⟨#[80,108,97,110,115]⟩,⟨#[]⟩,[]⟩,⟨9,2,3,⟨#[77,105,108,108]⟩,⟨#[84,45,57]⟩,[]⟩]
def xT:Tr:=⟨[1],xB⟩
theorem xBAl0:BrAlone xB 0 b_36:=⟨by decide +kernel,by decide +kernel,fun h=>absurd h b_37,by decide +kernel,fun _=>⟨by decide +kernel,by decide +kernel⟩⟩
theorem xBAl1:BrAlone xB 1 b_36:=⟨by decide +kernel,by decide +kernel,fun _=>by decide +kernel,by decide +kernel,fun h=>absurd h (by decide +kernel)⟩
theorem xBAl2:BrAlone xB 2 b_36:=⟨by decide +kernel,by decide +kernel,fun _=>by decide +kernel,by decide +kernel,fun h=>absurd h (by decide +kernel)⟩
theorem xBAl3:BrAlone xB 3 b_36:=⟨by decide +kernel,by decide +kernel,fun _=>by decide +kernel,by decide +kernel,fun _=>⟨by decide +kernel,by decide +kernel⟩⟩
theorem xTRight:RightT xT:=by
 refine⟨by decide,fun i h=>?_,fun i h=>?_,fun i h=>?_,by simp[sortI,kidsOf,xB,xT],fun i h=>?_⟩
 ·have:i=0∨i=1∨i=2∨i=3:=by
   have h4:i<4:=h
   omega
  rcases this with rfl|rfl|rfl|rfl
  ·exact xBAl0
  ·exact xBAl1
  ·exact xBAl2
  ·exact xBAl3
 ·have:i=0∨i=1∨i=2∨i=3:=by
   have h4:i<4:=h
   omega
  rcases this with rfl|rfl|rfl|rfl<;>simp[BrPlaced,xB,xT,brFind,fitsF,within]
 ·have:i=0∨i=1∨i=2∨i=3:=by
   have h4:i<4:=h
   omega
  rcases this with rfl|rfl|rfl|rfl<;>first|decide +kernel|(simp[sortI,kidsOf,xB,xT];done)|(rw[show(xT.brs[0]'b_36).kids=[2,5] from rfl,sort25];rfl)
 ·have:i=0∨i=1∨i=2∨i=3:=by
   have h4:i<4:=h
   omega
  rcases this with rfl|rfl|rfl|rfl
  ·exact⟨1,(by decide +kernel:deep xB 4 (xB[0]'b_36)=some 1),by omega⟩
  ·exact⟨2,(by decide +kernel:deep xB 4 (xB[1]'b_36)=some 2),by omega⟩
  ·exact⟨2,(by decide +kernel:deep xB 4 (xB[2]'b_36)=some 2),by omega⟩
  ·exact⟨3,(by decide +kernel:deep xB 4 (xB[3]'b_36)=some 3),by omega⟩
def xC:List Br:=[⟨1,0,1,⟨#[84,111,119,110]⟩,⟨#[84]⟩,[2,5]⟩,⟨2,1,2,⟨#[65,99,116,115]⟩,⟨#[]⟩,[]⟩,⟨5,1,2,⟨#[80,108,97,110,115]⟩,⟨#[]⟩,[9]⟩,⟨9,5,3,⟨#[77,105,108,108]⟩,⟨#[84,45,57]⟩,[]⟩]
def xU:Tr:=⟨[1],xC⟩
theorem xCAl0:BrAlone xC 0 b_36:=⟨by decide +kernel,by decide +kernel,fun h=>absurd h b_37,by decide +kernel,fun _=>⟨by decide +kernel,by decide +kernel⟩⟩
theorem xCAl1:BrAlone xC 1 b_36:=⟨by decide +kernel,by decide +kernel,fun _=>by decide +kernel,by decide +kernel,fun h=>absurd h (by decide +kernel)⟩
theorem xCAl2:BrAlone xC 2 b_36:=⟨by decide +kernel,by decide +kernel,fun _=>by decide +kernel,by decide +kernel,fun h=>absurd h (by decide +kernel)⟩
theorem xCAl3:BrAlone xC 3 b_36:=⟨by decide +kernel,by decide +kernel,fun _=>by decide +kernel,by decide +kernel,fun _=>⟨by decide +kernel,by decide +kernel⟩⟩
theorem xURight:RightT xU:=by
 refine⟨by decide,fun i h=>?_,fun i h=>?_,fun i h=>?_,by simp[sortI,kidsOf,xC,xU],fun i h=>?_⟩
 ·have:i=0∨i=1∨i=2∨i=3:=by
   have h4:i<4:=h
   omega
  rcases this with rfl|rfl|rfl|rfl
  ·exact xCAl0
  ·exact xCAl1
  ·exact xCAl2
  ·exact xCAl3
 ·have:i=0∨i=1∨i=2∨i=3:=by
   have h4:i<4:=h
   omega
  rcases this with rfl|rfl|rfl|rfl<;>simp[BrPlaced,xC,xU,brFind,fitsF,within]
 ·have:i=0∨i=1∨i=2∨i=3:=by
   have h4:i<4:=h
   omega
  rcases this with rfl|rfl|rfl|rfl<;>first|decide +kernel|(simp[sortI,kidsOf,xC,xU];done)|(rw[show(xU.brs[0]'b_36).kids=[2,5] from rfl,sort25];rfl)
 ·have:i=0∨i=1∨i=2∨i=3:=by
   have h4:i<4:=h
   omega
  rcases this with rfl|rfl|rfl|rfl
  ·exact⟨1,(by decide +kernel:deep xC 4 (xC[0]'b_36)=some 1),by omega⟩
  ·exact⟨2,(by decide +kernel:deep xC 4 (xC[1]'b_36)=some 2),by omega⟩
  ·exact⟨2,(by decide +kernel:deep xC 4 (xC[2]'b_36)=some 2),by omega⟩
  ·exact⟨3,(by decide +kernel:deep xC 4 (xC[3]'b_36)=some 3),by omega⟩
def xO:Opn:=⟨1,3,2,9,5,0,0,⟨#[]⟩,⟨#[]⟩,0,0,0⟩
def xP:Opn:=⟨1,3,2,9,2,0,0,⟨#[]⟩,⟨#[]⟩,0,0,0⟩
def xQ:Opn:=⟨1,0,2,2,2,0,0,⟨#[]⟩,⟨#[]⟩,0,0,0⟩
def xR:Opn:=⟨1,0,5,2,0,0,0,⟨#[]⟩,⟨#[]⟩,0,0,0⟩
def xZ:Opn:=⟨0,0,0,0,0,0,0,⟨#[]⟩,⟨#[]⟩,0,0,0⟩
theorem not3 {a b c:Prop} (ha:a) (hb:¬ b) (hc:¬ c):¬ (¬ a∨b∨c):=by
 rintro (h|h|h)
 ·exact h ha
 ·exact hb h
 ·exact hc h
theorem xNew:newT xT xO=xU:=by decide +kernel
theorem xA1:applyR xT xO=(xU,0):=by
 unfold applyR
 rw[if_neg (not3 xTRight (by decide +kernel) b_36),if_neg (by decide +kernel),xNew,if_pos xURight]
theorem xA2:applyR xT xQ=(⟨[],[]⟩,17):=by
 have h:faultO xT xQ=17:=by decide +kernel
 unfold applyR
 rw[if_neg (not3 xTRight (by decide +kernel) b_36),h,if_pos b_36]
theorem xA3:applyR xT xR=(⟨[],[]⟩,11):=by
 have h:faultO xT xR=11:=by decide +kernel
 unfold applyR
 rw[if_neg (not3 xTRight (by decide +kernel) b_36),h,if_pos b_36]
theorem xOpp:oppO xT xO=xP:=by decide +kernel
theorem xForm:formedO xZ=false:=by decide +kernel
theorem xChg:ChgIs xT xU [9]:=by
 refine⟨by simp[Asc],fun n=>?_⟩
 by_cases h1:n=1
 ·subst h1;decide +kernel
 by_cases h2:n=2
 ·subst h2;decide +kernel
 by_cases h5:n=5
 ·subst h5;decide +kernel
 by_cases h9:n=9
 ·subst h9;decide +kernel
 have e1:¬ ((1:Int)=n):=fun e=>h1 e.symm
 have e2:¬ ((2:Int)=n):=fun e=>h2 e.symm
 have e5:¬ ((5:Int)=n):=fun e=>h5 e.symm
 have e9:¬ ((9:Int)=n):=fun e=>h9 e.symm
 simp[brFind,xT,xU,xB,xC,core,e1,e2,e5,e9,h9]
theorem xChgU {l:List Int} (h:ChgIs xT xU l):l=[9]:=chg_unique h xChg
theorem xText:textR xO=(⟨#[109,111,118,101,32,57,32,98,101,108,111,119,32,53,32,98,101,102,111,114,101,32,48]⟩,0):=by
 have h1:formedO xO=true:=by decide +kernel
 unfold textR
 rw[h1]
 have e0:Lib.itoa 0=[48]:=by simp[Lib.itoa,Lib.decDigits]
 have e5:Lib.itoa 5=[53]:=by simp[Lib.itoa,Lib.decDigits]
 have e9:Lib.itoa 9=[57]:=by simp[Lib.itoa,Lib.decDigits]
 simp only [if_true,textOp,placeB,itoaB,xO,e0,e5,e9]
 decide +kernel
theorem xFew:FewBr xT.brs:=⟨by decide,fun i h=>by
 have:i=0∨i=1∨i=2∨i=3:=by
  have h4:i<4:=h
  omega
 rcases this with rfl|rfl|rfl|rfl<;>simp[xT,xB]⟩
end Go.Proofs.YtafncfomiolmgaaGreatDoor
namespace Go.Proofs.YtafncfomiolmgaaGreatDoor
open Go.RowKit
def YesIf (P:Prop) (w:World) (e:Ending) (w':World):Prop:=∃ q:Bool,e=.returned (.bool q)∧(q=true→P)∧Grew w w'
theorem YesIf.no {P:Prop} {w w':World} (hg:Grew w w'):YesIf P w (.returned (.bool false)) w':=⟨false,rfl,fun h=>(Bool.false_ne_true h).elim,hg⟩
theorem YesIf.yes {P:Prop} {w w':World} (h:P) (hg:Grew w w'):YesIf P w (.returned (.bool true)) w':=⟨true,rfl,fun _=>h,hg⟩
end Go.Proofs.YtafncfomiolmgaaGreatDoor