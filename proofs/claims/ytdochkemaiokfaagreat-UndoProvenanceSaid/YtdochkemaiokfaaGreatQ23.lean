/- Lemmas on what the functions of the program and of the library compute: MapC, PlainEx, F1. The conditions stand at each. -/
import Derived.Test.YtdochkemaiokfaaGreatProg
import Derived.Maps.OwnSet
import Derived.Maps.RangeWalk
import Derived.WideKeyEntry
import Derived.Test.YtdochkemaiokfaaGreatQ1
import Derived.DeepKeys5
import Derived.MapViews
import Derived.Test.YtdochkemaiokfaaGreatQ9
import Derived.Test.YtdochkemaiokfaaGreatQ2
import Derived.Shelf.Small.Bits
import Derived.Shelf.Small.Strs
import Derived.Shelf.Small.Wraps
import Derived.Shelf.Strings.Search3
import Derived.Shelf.LaysM
import Derived.Shelf.Strings.Shaped
import Derived.Shelf.Sort.Plain
import Derived.Shelf.Slices.Reverse
import Derived.Shelf.Slices.In.SortNone
import Derived.Test.YtdochkemaiokfaaGreatQ4
import Derived.Sort.Grow
import Derived.Lib.ItoaLen
import Derived.Laws.Concat
import Derived.Test.YtdochkemaiokfaaGreatQ3
/- Units as the keys of a map, and what a map of their counts holds. No condition. -/
namespace Go.Proofs.YtdochkemaiokfaaGreat
open Go.RowKit Go.Maps
def unitV (u:Br):Value:=.agg #[.int .i64 u.id,.int .i64 u.parent,.int .i64 u.level,.string u.title,.string u.mark]
structure WfU (u:Br):Prop where
 id:(Lit.int .i64 u.id).wf=true
 parent:(Lit.int .i64 u.parent).wf=true
 level:(Lit.int .i64 u.level).wf=true
 title:u.title.size≤maxLen
 mark:u.mark.size≤maxLen
 kids:u.kids=[]
def kU (u:Br):Lit:=.string (keyBytes [.int .i64 u.id,.int .i64 u.parent,.int .i64 u.level,.string u.title.data.toList,.string u.mark.data.toList])
theorem rowU:64<Tryz.prog.types.size:=of_decide_eq_true (by kernel_rfl)
theorem keyTypeU:Tryz.prog.keyType 64=true:=by kernel_rfl
theorem lawU:WideMaps.KeyLaw Tryz.prog 64:=deep_law_gate (by kernel_rfl) (of_decide_eq_true (by kernel_rfl)) rowU keyTypeU (by kernel_rfl)
theorem keyedU:Keyed Tryz.prog 64:=Keyed.of_law lawU
theorem cellsU:Tryz.prog.cellsOf 64=5:=by kernel_rfl
theorem cellsI:Tryz.prog.cellsOf 3=1:=by kernel_rfl
theorem cellsS:Tryz.prog.cellsOf 9=1:=by kernel_rfl
theorem litsI (n:Nat) (c:Value):Tryz.prog.keyLits (n+1) 3 [c]=(match c with | .int q' x=>if q'=.i64∧(Lit.int .i64 x).wf=true then some [.int .i64 x] else none|_=>none):=by
 unfold Program.keyLits
 rw[Tryz.underlying3]
 cases c<;>rfl
theorem litsS (n:Nat) (c:Value):Tryz.prog.keyLits (n+1) 9 [c]=(match c with | .string s=>if s.size≤maxLen then some [.string s.data.toList] else none|_=>none):=by
 unfold Program.keyLits
 rw[Tryz.underlying9]
 cases c<;>rfl
theorem litsU (n:Nat) (a b c d e:Value):Tryz.prog.keyLits (n+1+1) 64 [a,b,c,d,e] =
  (((Tryz.prog.keyLits (n+1) 3 [a]).bind fun x1=>(Tryz.prog.keyLits (n+1) 3 [b]).bind fun x2=>(Tryz.prog.keyLits (n+1) 3 [c]).bind fun x3=>(Tryz.prog.keyLits (n+1) 9 [d]).bind fun x4=>(Tryz.prog.keyLits (n+1) 9 [e]).bind fun x5=>some [x1,x2,x3,x4,x5]).map List.flatten):=by
 conv=>lhs;unfold Program.keyLits
 rw[Tryz.underlying64]
 dsimp only
 rw[cellsU]
 rw[if_pos ⟨rfl,by decide +kernel⟩]
 simp only [List.mapM_cons,List.mapM_nil,cellsI,cellsS,List.drop_zero,List.drop_succ_cons,List.take_succ_cons,List.take_zero]
 generalize Tryz.prog.keyLits (n+1) 3 [a]=oa
 generalize Tryz.prog.keyLits (n+1) 3 [b]=ob
 generalize Tryz.prog.keyLits (n+1) 3 [c]=oc
 generalize Tryz.prog.keyLits (n+1) 9 [d]=od
 generalize Tryz.prog.keyLits (n+1) 9 [e]=oe
 cases oa<;>cases ob<;>cases oc<;>cases od<;>cases oe<;>rfl
theorem keyOfU (v:Value):keyOf Tryz.prog 64 v=if v.formed Tryz.prog 64=true then(Tryz.prog.keyLits (Tryz.prog.types.size+1) 64 v.cells.toList).map (fun ls=>Lit.string (keyBytes ls)) else none:=by
 unfold keyOf
 rw[Tryz.underlying64]
 dsimp only
 rw[keyTypeU,Bool.true_and]
theorem formedU (v:Value):v.formed Tryz.prog 64=true↔∃ a b c d e,v=.agg #[a,b,c,d,e]:=by
 unfold Value.formed
 rw[Tryz.underlying64]
 cases v with
 | agg cs =>
  dsimp only
  rw[cellsU]
  constructor
  ·intro hf
   have hs:cs.size=5:=by simpa using hf
   obtain⟨l⟩:=cs
   match l,hs with
   | [a,b,c,d,e],_=>exact⟨a,b,c,d,e,rfl⟩
  ·rintro ⟨a,b,c,d,e,h⟩
   injection h with h
   subst h
   rfl
 | _ =>
  constructor
  ·intro h
   cases h
  ·rintro ⟨a,b,c,d,e,h⟩
   cases h
theorem sizeTT:∃ n,Tryz.prog.types.size+1=n+1+1:=⟨Tryz.prog.types.size-1,by have:=rowU;omega⟩
theorem keyU (u:Br) (h:WfU u):keyOf Tryz.prog 64 (unitV u)=some (kU u):=by
 obtain⟨n,hn⟩:=sizeTT
 obtain⟨h1,h2,h3,h4,h5,-⟩:=h
 rw[keyOfU,if_pos ((formedU (unitV u)).2 ⟨_,_,_,_,_,rfl⟩),hn,show(unitV u).cells.toList=[.int .i64 u.id,.int .i64 u.parent,.int .i64 u.level,.string u.title,.string u.mark] from rfl,litsU,litsI,litsI,litsI,litsS,litsS]
 simp only [h1,h2,h3,h4,h5,and_self,if_true,Option.bind_some,Option.map_some]
 rfl
theorem kU_inj {u v:Br} (hu:WfU u) (hv:WfU v) (h:kU u=kU v):u=v:=by
 have h1:=keyU u hu
 have h2:=keyU v hv
 rw[← h] at h2
 have h3:=keyedU.inj h1 h2
 have k1:=hu.kids
 have k2:=hv.kids
 obtain⟨a1,a2,a3,a4,a5,a6⟩:=u
 obtain⟨b1,b2,b3,b4,b5,b6⟩:=v
 simp only [unitV,Value.agg.injEq,Array.mk.injEq,List.cons.injEq,Value.int.injEq,Value.string.injEq,true_and,and_true] at h3
 obtain⟨rfl,rfl,rfl,rfl,rfl⟩:=h3
 dsimp only at k1 k2
 rw[k1,k2]
structure CntU (D:DataW Unit) (U:List Br):Prop where
 map:IsMap D
 at_:∀ u,WfU u→D.atKey (kU u) (.lit (.int .i64 0))=.lit (.int .i64 (U.count u))
 has_:∀ u∈U,has D (kU u)=true
 only:∀ kl,has D kl=true→∃ u∈U,kl=kU u
theorem CntU.nil:CntU (.map []) []:=⟨isMap_empty,fun _ _=>rfl,fun _ h=>(by cases h),fun _ h=>(by cases h)⟩
structure CollU (U:List Br) (left:Lit→Bool) (L:List Br):Prop where
 mem:∀ u,u∈L↔(U.count u=1∧left (kU u)=false)
theorem CollU.start {D:DataW Unit} {U:List Br} (h:CntU D U):CollU U (has D) []:=⟨fun u=>by
 constructor
 ·intro h;cases h
 ·rintro ⟨h1,h2⟩
  have hu:u∈U:=List.count_pos_iff.1 (by omega)
  rw[h.has_ u hu] at h2
  cases h2⟩
theorem CollU.step {U L:List Br} {left:Lit→Bool} (h:CollU U left L) (hU:∀ v∈U,WfU v) {u:Br} (hu:WfU u):CollU U (fun z=>left z && !z.sameKey (kU u)) (if U.count u=1 then L++[u] else L):=by
 have key:∀ v,v∈U→((kU v).sameKey (kU u)=true↔v=u):=fun v hv=>by
  constructor
  ·exact fun e=>kU_inj (hU v hv) hu (WideAt.sameKey_eq e)
  ·intro e
   rw[e]
   simp[kU,Lit.sameKey]
 refine⟨fun v=>?_⟩
 by_cases hv:v∈U
 ·have hk:=key v hv
  by_cases e:v=u
  ·subst e
   rw[hk.2 rfl]
   split
   ·rename_i h1
    simp[h1]
   ·rename_i h1
    rw[h.mem v]
    simp[h1]
  ·have hk2:(kU v).sameKey (kU u)=false:=by
    cases hs:(kU v).sameKey (kU u)
    ·rfl
    ·exact absurd (hk.1 hs) e
   rw[hk2]
   split
   ·rw[List.mem_append,h.mem v]
    simp[e]
   ·rw[h.mem v]
    simp
 ·have h0:U.count v=0:=List.count_eq_zero.2 hv
  have hne:v∉L:=fun hl=>by
   have:=((h.mem v).1 hl).1
   omega
  have hcu:U.count u=1→v≠u:=fun h1 e=>by
   subst e
   omega
  split
  ·rename_i h1
   simp[hne,hcu h1,h0]
  ·simp[hne,h0]
theorem CollU.done {U L:List Br} {left:Lit→Bool} (h:CollU U left L) (hl:∀ kl,left kl=false) (n:Int):n∈L.map Br.id↔∃ u,U.count u=1∧u.id=n:=by
 simp only [List.mem_map,h.mem,hl,and_true]
end Go.Proofs.YtdochkemaiokfaaGreat
/- The example of the chapter, plainly. No condition. -/
namespace Go.Proofs.YtdochkemaiokfaaGreat
open Go.RowKit
theorem not3 {a b c:Prop} (ha:a) (hb:¬ b) (hc:¬ c):¬ (¬ a∨b∨c):=by
 rintro (h|h|h)
 ·exact h ha
 ·exact hb h
 ·exact hc h
end Go.Proofs.YtdochkemaiokfaaGreat
/- The bounds on sizes of authorities and relations (the verifier's Few), walked: where they say yes, the lists are short. No condition. -/
namespace Go.Proofs.YtdochkemaiokfaaGreat
open Go.RowKit
def YesIf (P:Prop) (w:World) (e:Ending) (w':World):Prop:=∃ q:Bool,e=.returned (.bool q)∧(q=true→P)∧Grew w w'
theorem YesIf.no {P:Prop} {w w':World} (hg:Grew w w'):YesIf P w (.returned (.bool false)) w':=⟨false,rfl,fun h=>(Bool.false_ne_true h).elim,hg⟩
theorem YesIf.yes {P:Prop} {w w':World} (h:P) (hg:Grew w w'):YesIf P w (.returned (.bool true)) w':=⟨true,rfl,fun _=>h,hg⟩
end Go.Proofs.YtdochkemaiokfaaGreat