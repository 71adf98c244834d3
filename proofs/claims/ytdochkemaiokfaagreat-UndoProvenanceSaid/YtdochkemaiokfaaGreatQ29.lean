/- Lemmas on what the functions of the program and of the library compute: Shelf4, SortG, SortC, SlU, UnC, PlainUj, CbO, UnK, PvA. The conditions stand at each. -/
import Derived.Shelf.Small.Bits
import Derived.Shelf.Small.Strs
import Derived.Shelf.Small.Wraps
import Derived.Shelf.Strings.Search3
import Derived.Shelf.LaysM
import Derived.Shelf.Strings.Shaped
import Derived.Shelf.Sort.Plain
import Derived.Shelf.Strings.FuncGrows
import Derived.Shelf.Slices.Reverse
import Derived.Ground.Names2Prog
import Derived.Shelf.Slices.SearchI
import Derived.Shelf.Slices.In.SortNone
import Derived.Test.YtdochkemaiokfaaGreatProg
import Derived.Shelf.SlGeneric
import Derived.Shelf.SlSortCmp.WholeK
import Derived.Ground.SlsfProg
import Derived.Test.YtdochkemaiokfaaGreatQ10
import Derived.Test.YtdochkemaiokfaaGreatQ1
import Derived.Test.YtdochkemaiokfaaGreatQ28
import Derived.Lib.LazyBuf
import Derived.Test.YtdochkemaiokfaaGreatQ3
import Derived.Test.YtdochkemaiokfaaGreatQ8
import Derived.Lib.Bytealg
import Derived.Laws.EntriesVeiled
import Derived.Test.YtdochkemaiokfaaGreatQ27
/-
  DERIVED: THE SHELF's CONTRACTS AT THIS DUMP, IN PLAIN WORDS (tools/lay-plain.mjs out of 'YtdochkemaiokfaaGreatShelf4.lean', which tools/lay-shelf.mjs wrote): THE SAME DECLARATIONS UNDER THE SAME NAMES: 'import', 'namespace', 'open', 'def', 'theorem' AND NOTHING ELSE: no command of the shelf's: FOR A HAND-IN. Each laying: the table of numbers ('.._ren') and one theorem, a field a fact of the dump's own or the kernel's comparison; each contract: ONE APPLICATION.
-/
namespace Go.Proofs
open Go.Shelf
def Tryz.sortC_ren:Go.Shelf.Ren:=⟨fun|6=>71|15=>75|14=>105|28=>115|29=>116|20=>157|21=>158|22=>159|23=>160|24=>161|25=>162|26=>163|27=>164|46=>209|47=>166|48=>167|49=>210|50=>211|57=>235|n=>n,fun|22=>50|24=>69|25=>105|3=>3|39=>108|0=>0|53=>138|55=>140|4=>4|46=>132|45=>131|50=>117|5=>5|9=>9|66=>175|70=>179|76=>206|77=>207|n=>n,fun|n=>n⟩
theorem Tryz.sortC:Go.Proofs.SlLaysF0.n6 Tryz.prog Tryz.sortC_ren:={
 mixed:=by kernel_rfl
 f6:=⟨Tryz.f71.name,by decide,Tryz.func71.trans (congrArg some (by kernel_rfl))⟩
 f14:=⟨Tryz.f105.name,by decide,Tryz.func105.trans (congrArg some (by kernel_rfl))⟩
 f15:=Tryz.func75.trans (congrArg some (by kernel_rfl))
 f20:=⟨Tryz.f157.name,by decide,Tryz.func157.trans (congrArg some (by kernel_rfl))⟩
 f21:=⟨Tryz.f158.name,by decide,Tryz.func158.trans (congrArg some (by kernel_rfl))⟩
 f22:=⟨Tryz.f159.name,by decide,Tryz.func159.trans (congrArg some (by kernel_rfl))⟩
 f23:=⟨Tryz.f160.name,by decide,Tryz.func160.trans (congrArg some (by kernel_rfl))⟩
 f24:=⟨Tryz.f161.name,by decide,Tryz.func161.trans (congrArg some (by kernel_rfl))⟩
 f25:=⟨Tryz.f162.name,by decide,Tryz.func162.trans (congrArg some (by kernel_rfl))⟩
 f26:=⟨Tryz.f163.name,by decide,Tryz.func163.trans (congrArg some (by kernel_rfl))⟩
 f27:=⟨Tryz.f164.name,by decide,Tryz.func164.trans (congrArg some (by kernel_rfl))⟩
 f28:=Tryz.func115.trans (congrArg some (by kernel_rfl))
 f29:=Tryz.func116.trans (congrArg some (by kernel_rfl))
 f46:=⟨Tryz.f209.name,by decide,Tryz.func209.trans (congrArg some (by kernel_rfl))⟩
 f47:=Tryz.func166.trans (congrArg some (by kernel_rfl))
 f48:=Tryz.func167.trans (congrArg some (by kernel_rfl))
 f49:=⟨Tryz.f210.name,by decide,Tryz.func210.trans (congrArg some (by kernel_rfl))⟩
 f50:=⟨Tryz.f211.name,by decide,Tryz.func211.trans (congrArg some (by kernel_rfl))⟩
 f57:=⟨Tryz.f235.name,by decide,Tryz.func235.trans (congrArg some (by kernel_rfl))⟩
 t0:=Tryz.underlying0
 a0:=Tryz.isAgg0
 z0:=Tryz.sizeOf0
 v0:=Tryz.zeroValue0
 t3:=Tryz.underlying3
 a3:=Tryz.isAgg3
 z3:=Tryz.sizeOf3
 v3:=Tryz.zeroValue3
 t4:=Tryz.underlying4
 a4:=Tryz.isAgg4
 z4:=Tryz.sizeOf4
 v4:=Tryz.zeroValue4
 t5:=Tryz.underlying5
 a5:=Tryz.isAgg5
 z5:=Tryz.sizeOf5
 v5:=Tryz.zeroValue5
 t9:=Tryz.underlying9
 a9:=Tryz.isAgg9
 z9:=Tryz.sizeOf9
 v9:=Tryz.zeroValue9
 t22:=Tryz.underlying50
 a22:=Tryz.isAgg50
 z22:=Tryz.sizeOf50
 v22:=Tryz.zeroValue50
 t25:=Tryz.underlying105
 a25:=Tryz.isAgg105
 z25:=Tryz.sizeOf105
 v25:=Tryz.zeroValue105
 t39:=Tryz.underlying108
 a39:=Tryz.isAgg108
 z39:=Tryz.sizeOf108
 v39:=Tryz.zeroValue108
 t45:=Tryz.underlying131
 a45:=Tryz.isAgg131
 z45:=Tryz.sizeOf131
 v45:=Tryz.zeroValue131
 t46:=Tryz.underlying132
 a46:=Tryz.isAgg132
 z46:=Tryz.sizeOf132
 v46:=Tryz.zeroValue132
 t50:=Tryz.underlying117
 a50:=Tryz.isAgg117
 z50:=Tryz.sizeOf117
 v50:=Tryz.zeroValue117
 t53:=Tryz.underlying138
 a53:=Tryz.isAgg138
 z53:=Tryz.sizeOf138
 v53:=Tryz.zeroValue138
 t55:=Tryz.underlying140
 a55:=Tryz.isAgg140
 z55:=Tryz.sizeOf140
 v55:=Tryz.zeroValue140
 t66:=Tryz.underlying175
 a66:=Tryz.isAgg175
 z66:=Tryz.sizeOf175
 v66:=Tryz.zeroValue175
 t70:=Tryz.underlying179
 a70:=Tryz.isAgg179
 z70:=Tryz.sizeOf179
 v70:=Tryz.zeroValue179
 t76:=Tryz.underlying206
 a76:=Tryz.isAgg206
 z76:=Tryz.sizeOf206
 v76:=Tryz.zeroValue206
 t77:=Tryz.underlying207
 a77:=Tryz.isAgg207
 z77:=Tryz.sizeOf207
 v77:=Tryz.zeroValue207 }
open Go.RowKit Go.Sort Go.Lib in
theorem Tryz.slices_SortFuncC {α:Type} [Inhabited α] (enc:α→List Value) (hk:∀ x,(enc x).length=4) (h1:∀ x,∀ v∈enc x,v.oneCell'=true) (cf:α→α→Int) (hO:SWO (ltOf cf)) (g:Nat) (cb:Array Value) (blk off cap:Nat) (d:Array α) (w:World)
  (eg:∀ args w,(callFunc g args).run Tryz.prog w=.ok (.enter g args) w) (hcmp:CmpLays Tryz.prog g cb enc 4 cf blk off d.size w) (hH:HoldsK enc 4 w blk off d) (hblk:blk<w.heap.size) (hsz:d.size<4611686018427387904) :
  Calls Tryz.prog 71 #[.slice (some ⟨blk,off,none⟩) d.size cap,.func (.func g) #[] cb] w fun e w' =>
   e=.returned (.tuple #[])∧∃ d' n os,PermIn 0 d.size d d'∧SortedIn (ltOf cf) 0 d.size d'∧w'=sortWorldK enc 4 w blk off n d' os:=AnyQ.slices_SortFunc Tryz.sortC 4 Tryz.isAgg69 Tryz.sizeOf69 enc hk h1 cf hO g cb blk off cap d w eg hcmp hH hblk hsz
def Tryz.sortM_ren:Go.Shelf.Ren:=⟨fun|6=>54|15=>75|14=>74|28=>115|29=>116|20=>107|21=>108|22=>109|23=>110|24=>111|25=>112|26=>113|27=>114|46=>165|47=>166|48=>167|49=>168|50=>169|57=>212|n=>n,fun|22=>53|24=>62|25=>90|3=>3|39=>108|0=>0|53=>138|55=>140|4=>4|46=>132|45=>131|50=>117|5=>5|9=>9|66=>175|70=>179|76=>206|77=>207|n=>n,fun|n=>n⟩
theorem Tryz.sortM:Go.Proofs.SlLaysF0.n6 Tryz.prog Tryz.sortM_ren:={
 mixed:=by kernel_rfl
 f6:=⟨Tryz.f54.name,by decide,Tryz.func54.trans (congrArg some (by kernel_rfl))⟩
 f14:=⟨Tryz.f74.name,by decide,Tryz.func74.trans (congrArg some (by kernel_rfl))⟩
 f15:=Tryz.func75.trans (congrArg some (by kernel_rfl))
 f20:=⟨Tryz.f107.name,by decide,Tryz.func107.trans (congrArg some (by kernel_rfl))⟩
 f21:=⟨Tryz.f108.name,by decide,Tryz.func108.trans (congrArg some (by kernel_rfl))⟩
 f22:=⟨Tryz.f109.name,by decide,Tryz.func109.trans (congrArg some (by kernel_rfl))⟩
 f23:=⟨Tryz.f110.name,by decide,Tryz.func110.trans (congrArg some (by kernel_rfl))⟩
 f24:=⟨Tryz.f111.name,by decide,Tryz.func111.trans (congrArg some (by kernel_rfl))⟩
 f25:=⟨Tryz.f112.name,by decide,Tryz.func112.trans (congrArg some (by kernel_rfl))⟩
 f26:=⟨Tryz.f113.name,by decide,Tryz.func113.trans (congrArg some (by kernel_rfl))⟩
 f27:=⟨Tryz.f114.name,by decide,Tryz.func114.trans (congrArg some (by kernel_rfl))⟩
 f28:=Tryz.func115.trans (congrArg some (by kernel_rfl))
 f29:=Tryz.func116.trans (congrArg some (by kernel_rfl))
 f46:=⟨Tryz.f165.name,by decide,Tryz.func165.trans (congrArg some (by kernel_rfl))⟩
 f47:=Tryz.func166.trans (congrArg some (by kernel_rfl))
 f48:=Tryz.func167.trans (congrArg some (by kernel_rfl))
 f49:=⟨Tryz.f168.name,by decide,Tryz.func168.trans (congrArg some (by kernel_rfl))⟩
 f50:=⟨Tryz.f169.name,by decide,Tryz.func169.trans (congrArg some (by kernel_rfl))⟩
 f57:=⟨Tryz.f212.name,by decide,Tryz.func212.trans (congrArg some (by kernel_rfl))⟩
 t0:=Tryz.underlying0
 a0:=Tryz.isAgg0
 z0:=Tryz.sizeOf0
 v0:=Tryz.zeroValue0
 t3:=Tryz.underlying3
 a3:=Tryz.isAgg3
 z3:=Tryz.sizeOf3
 v3:=Tryz.zeroValue3
 t4:=Tryz.underlying4
 a4:=Tryz.isAgg4
 z4:=Tryz.sizeOf4
 v4:=Tryz.zeroValue4
 t5:=Tryz.underlying5
 a5:=Tryz.isAgg5
 z5:=Tryz.sizeOf5
 v5:=Tryz.zeroValue5
 t9:=Tryz.underlying9
 a9:=Tryz.isAgg9
 z9:=Tryz.sizeOf9
 v9:=Tryz.zeroValue9
 t22:=Tryz.underlying53
 a22:=Tryz.isAgg53
 z22:=Tryz.sizeOf53
 v22:=Tryz.zeroValue53
 t25:=Tryz.underlying90
 a25:=Tryz.isAgg90
 z25:=Tryz.sizeOf90
 v25:=Tryz.zeroValue90
 t39:=Tryz.underlying108
 a39:=Tryz.isAgg108
 z39:=Tryz.sizeOf108
 v39:=Tryz.zeroValue108
 t45:=Tryz.underlying131
 a45:=Tryz.isAgg131
 z45:=Tryz.sizeOf131
 v45:=Tryz.zeroValue131
 t46:=Tryz.underlying132
 a46:=Tryz.isAgg132
 z46:=Tryz.sizeOf132
 v46:=Tryz.zeroValue132
 t50:=Tryz.underlying117
 a50:=Tryz.isAgg117
 z50:=Tryz.sizeOf117
 v50:=Tryz.zeroValue117
 t53:=Tryz.underlying138
 a53:=Tryz.isAgg138
 z53:=Tryz.sizeOf138
 v53:=Tryz.zeroValue138
 t55:=Tryz.underlying140
 a55:=Tryz.isAgg140
 z55:=Tryz.sizeOf140
 v55:=Tryz.zeroValue140
 t66:=Tryz.underlying175
 a66:=Tryz.isAgg175
 z66:=Tryz.sizeOf175
 v66:=Tryz.zeroValue175
 t70:=Tryz.underlying179
 a70:=Tryz.isAgg179
 z70:=Tryz.sizeOf179
 v70:=Tryz.zeroValue179
 t76:=Tryz.underlying206
 a76:=Tryz.isAgg206
 z76:=Tryz.sizeOf206
 v76:=Tryz.zeroValue206
 t77:=Tryz.underlying207
 a77:=Tryz.isAgg207
 z77:=Tryz.sizeOf207
 v77:=Tryz.zeroValue207 }
open Go.RowKit Go.Sort Go.Lib in
theorem Tryz.slices_SortFuncM {α:Type} [Inhabited α] (enc:α→List Value) (hk:∀ x,(enc x).length=2) (h1:∀ x,∀ v∈enc x,v.oneCell'=true) (cf:α→α→Int) (hO:SWO (ltOf cf)) (g:Nat) (cb:Array Value) (blk off cap:Nat) (d:Array α) (w:World)
  (eg:∀ args w,(callFunc g args).run Tryz.prog w=.ok (.enter g args) w) (hcmp:CmpLays Tryz.prog g cb enc 2 cf blk off d.size w) (hH:HoldsK enc 2 w blk off d) (hblk:blk<w.heap.size) (hsz:d.size<4611686018427387904) :
  Calls Tryz.prog 54 #[.slice (some ⟨blk,off,none⟩) d.size cap,.func (.func g) #[] cb] w fun e w' =>
   e=.returned (.tuple #[])∧∃ d' n os,PermIn 0 d.size d d'∧SortedIn (ltOf cf) 0 d.size d'∧w'=sortWorldK enc 2 w blk off n d' os:=AnyQ.slices_SortFunc Tryz.sortM 2 Tryz.isAgg62 Tryz.sizeOf62 enc hk h1 cf hO g cb blk off cap d w eg hcmp hH hblk hsz
end Go.Proofs
/- What a sorted row is behind slices.SortFunc, for elements of any size. No condition. -/
namespace Go.Proofs.YtdochkemaiokfaaGreat
open Go.RowKit Go.Sort Go.Lib
theorem heap_sortId {w:World} {g n:Nat} {os:Array Obj} {cur:Array Value} {e:TypeId} {fr:Nat × Nat} (d:Array Value) (hb:w.heap[g]? = some (.cells cur e fr)) :
  (grow (putRow id (Sort.ahead w n) g 0 d) os).heap[g]? = some (.cells (putCells id 0 d cur) e fr):=by
 have hg:g<w.heap.size:=(Array.getElem?_eq_some_iff.1 hb).1
 rw[heap_grow_old _ _ (by simpa using hg)]
 simp[putRow,mapBlock,Sort.ahead,Array.getElem?_modify,hb,onCells]
theorem grownBy_sortId {w:World} {g n:Nat} {os:Array Obj} (d:Array Value):w.grownBy (grow (putRow id (Sort.ahead w n) g 0 d) os) (some g):=by
 refine⟨rfl,rfl,rfl,by simp,fun k hk hne=>?_⟩
 rw[heap_grow_old _ _ (by simpa using hk)]
 have:g≠k:=fun e=>hne (by rw[e])
 simp[putRow,mapBlock,Sort.ahead,Array.getElem?_modify,this]
theorem take_sortId (cur:Array Value) (ts:List Value) (h:ts.length≤cur.size):(putCells id 0 ts.toArray cur).toList.take ts.length=ts:=by
 apply List.ext_getElem?
 intro j
 by_cases hj:j<ts.length
 ·rw[List.getElem?_take_of_lt hj,Array.getElem?_toList]
  simp[putCells,hj,show j<cur.size by omega]
 ·rw[List.getElem?_take_eq_none (by omega),List.getElem?_eq_none (by omega)]
theorem pair_ext {α:Type} {lt:α→α→Prop} (asym:∀ a b,lt a b→¬ lt b a):∀ {l m:List α},l.Pairwise lt→m.Pairwise lt→(∀ x,x∈l↔x∈m)→l=m
 | [],[],_,_,_=>rfl
 | [],b::m,_,_,h=>by have:=(h b).2 List.mem_cons_self;cases this
 | a::l,[],_,_,h=>by have:=(h a).1 List.mem_cons_self;cases this
 | a::l,b::m,hl,hm,h=>by
  rw[List.pairwise_cons] at hl hm
  obtain⟨h1,h2⟩:=hl
  obtain⟨k1,k2⟩:=hm
  have hab:a=b:=by
   rcases List.mem_cons.1 ((h a).1 List.mem_cons_self) with e|ha
   ·exact e
   ·rcases List.mem_cons.1 ((h b).2 List.mem_cons_self) with e|hb
    ·exact e.symm
    ·exact absurd (h1 b hb) (asym _ _ (k1 a ha))
  subst hab
  have hirr:¬ lt a a:=fun k=>asym _ _ k k
  rw[pair_ext asym h2 k2 fun x=>?_]
  constructor
  ·intro hx
   rcases List.mem_cons.1 ((h x).1 (List.mem_cons_of_mem _ hx)) with e|hx2
   ·rw[e] at hx;exact absurd (h1 a hx) hirr
   ·exact hx2
  ·intro hx
   rcases List.mem_cons.1 ((h x).2 (List.mem_cons_of_mem _ hx)) with e|hx2
   ·rw[e] at hx;exact absurd (k1 a hx) hirr
   ·exact hx2
theorem pair_key {α:Type} {lt:α→α→Prop}:∀ {ms:List α},ms.Pairwise lt→∀ a∈ms,∀ b∈ms,a≠b→lt a b∨lt b a:=by
 intro ms
 induction ms with
 | nil=>intro _ a ha;cases ha
 | cons x r ih =>
  intro hx a ha b hb hab
  rw[List.pairwise_cons] at hx
  rcases List.mem_cons.1 ha with ea|ha2
  ·rcases List.mem_cons.1 hb with eb|hb2
   ·exact absurd (ea.trans eb.symm) hab
   ·rw[ea]
    exact .inl (hx.1 b hb2)
  ·rcases List.mem_cons.1 hb with eb|hb2
   ·rw[eb]
    exact .inr (hx.1 a ha2)
   ·exact ih hx.2 a ha2 b hb2 hab
theorem sorted_one {α:Type} [Inhabited α] {lt:α→α→Prop} (asym:∀ a b,lt a b→¬ lt b a) {cf:α→α→Int} (hcf:∀ x y,ltOf cf x y=true↔lt x y) {l m:List α} {d':Array α} (hm:l.Perm m) (hs:m.Pairwise lt) (hp:PermIn 0 l.toArray.size l.toArray d') (ho:SortedIn (ltOf cf) 0 l.toArray.size d'):d'.toList=m:=by
 obtain⟨hsz,-,hperm⟩:=hp
 have e1:d'.extract 0 l.toArray.size=d':=by rw[← hsz];exact Array.extract_size
 rw[e1,Array.extract_size] at hperm
 have hpm:d'.toList.Perm m:=hperm.trans hm
 have hnd:m.Nodup:=(show m.Pairwise (· ≠ ·) from hs.imp fun {a b} h=>fun e:a=b=>by subst e;exact asym _ _ h h)
 have hnd2:d'.toList.Nodup:=hpm.nodup_iff.2 hnd
 have hpair:d'.toList.Pairwise lt:=by
  rw[List.pairwise_iff_getElem]
  intro i j hi hj hij
  have hi':i<d'.size:=by simpa using hi
  have hj':j<d'.size:=by simpa using hj
  have hlt:=ho i j (Nat.zero_le _) hij (by rw[← hsz];exact hj')
  rw[getElem!_pos d' i hi',getElem!_pos d' j hj'] at hlt
  have hne:d'.toList[i]≠d'.toList[j]:=List.pairwise_iff_getElem.1 hnd2 i j hi hj hij
  have mi:d'.toList[i]∈m:=hpm.mem_iff.1 (List.getElem_mem hi)
  have mj:d'.toList[j]∈m:=hpm.mem_iff.1 (List.getElem_mem hj)
  rcases pair_key hs _ mi _ mj hne with h|h
  ·exact h
  ·exfalso
   have:ltOf cf d'[j] d'[i]=true:=(hcf _ _).2 (by simpa using h)
   rw[this] at hlt
   cases hlt
 exact pair_ext asym hpair hs fun x=>hpm.mem_iff
theorem flat_rowK {α:Type} [Inhabited α] {f:α→List Value} {k:Nat} (h0:0<k) (hf:∀ x,(f x).length=k) (l:List α):flatK f k l.toArray=(l.flatMap f).toArray:=by
 have hfl:=flatMap_len f k hf l
 refine Array.ext (by simp[hfl]) fun i h1 h2=>?_
 have hi:i<l.length*k:=by simpa using h1
 have e:i=i / k*k+i % k:=by rw[Nat.mul_comm];exact(Nat.div_add_mod i k).symm
 have hq:i / k<l.length:=Nat.div_lt_of_lt_mul (by rw[Nat.mul_comm];exact hi)
 have hr:i % k<k:=Nat.mod_lt _ h0
 have hg:=flatMap_get f k hf l (i / k) (i % k) hq hr
 rw[← e] at hg
 have hk:=get_flatK f k l.toArray i (by simpa using hi)
 rw[getElem!_pos _ i h1] at hk
 rw[hk]
 have h3:l.toArray[i / k]! = l[i / k]:=by rw[getElem!_pos l.toArray (i / k) (by simpa using hq)];simp
 have h4:i % k<(f (l[i / k])).length:=by rw[hf];exact hr
 rw[h3,getElem!_pos (f (l[i / k])) (i % k) h4]
 rw[List.getElem?_eq_getElem h4,List.getElem?_eq_getElem (by simpa using h2)] at hg
 simpa using (Option.some.inj hg).symm
end Go.Proofs.YtdochkemaiokfaaGreat
/- slices.SortFunc at evidence, by units, on a row of the call's own. No condition but the sizes that a slice can have. -/
namespace Go.Proofs.YtdochkemaiokfaaGreat
open Go.RowKit Go.Sort Go.Lib
def ltC (a b:Cm):Prop:=a.unit<b.unit
def cfC (a b:Cm):Int:=compareInt a.unit b.unit
theorem ltC_asym (a b:Cm) (h:ltC a b):¬ ltC b a:=by unfold ltC at h ⊢;omega
instance:Inhabited Cm:=⟨⟨0,0,0,0⟩⟩
theorem cfC_lt (x y:Cm):ltOf cfC x y=true↔ltC x y:=by
 unfold ltOf cfC ltC compareInt
 split
 ·rename_i h;simp[h]
 ·rename_i h
  split<;>simp<;>omega
theorem cfC_no (x y:Cm):ltOf cfC x y=false↔¬ ltC x y:=by
 rw[← cfC_lt];simp
theorem cfC_swo:SWO (ltOf cfC):=by
 refine⟨fun x=>?_,fun x y z h1 h2=>?_,fun x y z h1 h2=>?_⟩
 ·rw[cfC_no];unfold ltC;omega
 ·rw[cfC_lt] at h1 h2 ⊢;unfold ltC at *;omega
 ·rw[cfC_no] at h1 h2 ⊢;unfold ltC at *;omega
set_option maxHeartbeats 1000000 in
theorem cmpC1 (x y:Cm) (W:World):Calls Tryz.prog 72 #[x.agg,y.agg] W fun e w'=>e=.returned (.int .i64 (cfC x y))∧∃ q os',w'=grow (W.drewN q) os':=by
 have K:=Lib.hid (fun W=>Tryz.cmp_Compare_int x.unit y.unit W)
 unfold cfC
 obtain⟨xu,xo,xa,xn⟩:=x
 obtain⟨yu,yo,ya,yn⟩:=y
 unfold Cm.agg
 dsimp only at K ⊢
 generalize compareInt xu yu=q at K ⊢
 go_enter Tryz.func72,Tryz.ntmps72
 go_wp2_with fail
 refine(K.out _).mono ?_
 rintro e w1 ⟨rfl,rfl⟩
 dsimp only
 go_wp2
 go_ret
 exact⟨rfl,0,_,by rw[alloc_eq_grow,alloc_eq_grow,grow_grow];rfl⟩
theorem enters_cmpC1:∀ args w,(callFunc 72 args).run Tryz.prog w=.ok (.enter 72 args) w:=enters_of Tryz.func72 (by kernel_rfl) rfl
theorem cmpC_lays (blk off size:Nat) (w:World):CmpLays Tryz.prog 72 #[] Cm.cells 4 cfC blk off size w:=fun _ _ _ _ x y=>by
 have:=cmpC1 x y
 unfold Cm.agg at this
 exact this _
theorem sortC_own (l m:List Cm) (h0:0<l.length) (hm:l.Perm m) (hs:m.Pairwise ltC) (w0:World) (v:Value) (w:World) (hown:w.ownsRow w0.heap.size 69 4 v l.length (l.flatMap Cm.cells)) (hg:Grew w0 w) (hl:l.length≤1000000) :
  Calls Tryz.prog 71 #[v,.func (.func 72) #[] #[]] w fun en w'=>en=.returned (.tuple #[])∧w'.ownsRow w0.heap.size 69 4 v m.length (m.flatMap Cm.cells)∧Grew w0 w':=by
 have hfl:=flatMap_len Cm.cells 4 (fun _=>rfl) l
 have hfm:=flatMap_len Cm.cells 4 (fun _=>rfl) m
 have hlm:l.length=m.length:=hm.length_eq
 have hH0:=hown
 rcases hown.2 with ⟨_,hz⟩|⟨g,cap,cur,rfl,hbg,hh,h1,h2,h3,h4⟩
 ·omega
 have hlt:g<w.heap.size:=(Array.getElem?_eq_some_iff.1 hh).1
 have hH:HoldsK Cm.cells 4 w g 0 l.toArray:=by
  intro j hj
  rw[flat_rowK (f:=Cm.cells) (k:=4) (by omega) (fun _=>rfl)] at hj ⊢
  have hj':j<(l.flatMap Cm.cells).length:=by simpa using hj
  rw[Nat.zero_add]
  refine⟨?_,hH0.frozenAt j⟩
  rw[hH0.cellAt j (by omega),List.getElem?_eq_getElem hj',getElem!_pos _ j hj]
  simp
 refine(Tryz.slices_SortFuncC Cm.cells (fun _=>rfl) (fun x u hu=>by simp[Cm.cells] at hu;rcases hu with rfl|rfl|rfl|rfl<;>rfl) cfC cfC_swo 72 #[] g 0 cap l.toArray w enters_cmpC1 (cmpC_lays _ _ _ _) hH hlt (by simp;omega)).mono ?_
 rintro en w' ⟨rfl,d',n,os,hp,ho,rfl⟩
 have hd:d'=m.toArray:=Array.toList_inj.1 (by rw[sorted_one ltC_asym cfC_lt hm hs hp ho])
 subst hd
 unfold sortWorldK putRowK
 rw[flat_rowK (f:=Cm.cells) (k:=4) (by omega) (fun _=>rfl)]
 refine⟨rfl,⟨by rw[hfm],.inr ⟨g,cap,_,by rw[hlm],hbg,heap_sortId _ hh,by omega,h2,by simp[putCells,h3],?_⟩⟩,?_⟩
 ·have:=take_sortId cur (m.flatMap Cm.cells) (by rw[hfm,h3];omega)
  rw[hfm] at this
  exact this
 ·exact Below.grown hg (grownBy_sortId _) hg.size (fun k e=>by cases e;exact hbg)
end Go.Proofs.YtdochkemaiokfaaGreat
/- slices.Clone at operations and at evidence. No condition but the sizes that a slice can have. -/
namespace Go.Proofs.YtdochkemaiokfaaGreat
open Go.RowKit
theorem cinfoO:(Tryz.prog.info? 26).map (fun i=>(i.zero,i.size,i.bytes))=some (some (.agg #[.int .i64 0,.int .i64 0,.int .i64 0,.int .i64 0,.int .i64 0,.int .i64 0,.int .i64 0,.string ⟨#[]⟩,.string ⟨#[]⟩,.int .i64 0,.int .i64 0,.int .i64 0]),12,112):=by kernel_rfl
theorem one_cellsO (l:List Opn):∀ u∈l.flatMap Opn.cells,u.oneCell'=true:=by
 intro u hu
 rw[List.mem_flatMap] at hu
 obtain⟨x,_,hx⟩:=hu
 simp[Opn.cells] at hx
 rcases hx with rfl|rfl|rfl|rfl|rfl|rfl|rfl|rfl|rfl|rfl|rfl|rfl<;>rfl
set_option maxHeartbeats 1000000 in
theorem cloneO (l:List Opn) (v:Value) (w:World) (hv:SlO w v l) (hb:l.length*112≤140737488355328) :
  Calls Tryz.prog 15 #[v] w fun e w'=>∃ v',e=.returned v'∧w'.ownsRow w.heap.size 26 12 v' l.length (l.flatMap Opn.cells)∧Grew w w':=by
 obtain⟨A,n,c,rfl,hl,hn,hc,hr⟩:=hv
 have hfl:=flatMap_len Opn.cells 12 (fun _=>rfl) l
 obtain rfl:n=l.length:=by omega
 unfold maxLen at hc
 have q22:∀(w:World) (a:Option Addr) (n c:Nat),(binOp .eql 22 (.slice a n c) (.slice none 0 0)).run Tryz.prog w=.ok (.bool a.isNone) w:=fun w a n c=>Lib.run_eql_slice_nil w _ _ a n c 0 0 Tryz.underlying22
 cases A with
 | none =>
  have h0:l.length=0:=by
   rcases Nat.eq_zero_or_pos l.length with h|h
   ·exact h
   ·obtain⟨b,off,hA,_⟩:=hr h
    cases hA
  obtain rfl:l=[]:=List.eq_nil_of_length_eq_zero h0
  clear hr hl hn hfl h0 hb
  go_enter Tryz.func15,Tryz.ntmps15
  go_wp2
  go_ret
  exact⟨_,rfl,World.ownsRow_nil _ _ _ _,Grew.refl w⟩
 | some ad =>
  have hcells:∀ j u,(l.flatMap Opn.cells)[j]? = some u→w.cell? (ad.add j)=some u:=by
   intro j u hu
   have h0:0<l.length:=by
    rcases Nat.eq_zero_or_pos l.length with h|h
    ·have:=(List.getElem?_eq_some_iff.1 hu).1
     rw[hfl,h] at this
     omega
    ·exact h
   obtain⟨b,off,hA,_,hcell⟩:=hr h0
   cases hA
   rw[add_lit]
   exact hcell j u hu
  have HC:=Lib.hid hcells
  have H1:=Lib.hid (one_cellsO l)
  have HL:=Lib.hid hl
  generalize l.flatMap Opn.cells=cs at HC H1 HL ⊢
  clear hcells hr hl hfl
  obtain⟨i0,hi,hz0,hz1,hz2⟩:=info_parts cinfoO
  go_enter Tryz.func15,Tryz.ntmps15
  go_wp2_with (at_builtin;refine wpList_append_own _ rfl _ _ 22 rfl w.heap.size 26 i0 (.agg #[.int .i64 0,.int .i64 0,.int .i64 0,.int .i64 0,.int .i64 0,.int .i64 0,.int .i64 0,.string ⟨#[]⟩,.string ⟨#[]⟩,.int .i64 0,.int .i64 0,.int .i64 0]) 12 112 Tryz.underlying22 hi hz0 hz1 hz2 rfl (by omega) _ _ _ rfl (World.ownsRow_made w #[] 0 (Nat.le_refl _) (Nat.zero_le _) (by simp)) ad l.length c cs rfl ?qc1 ?qc2 ?qc3 ?qc4 ?qc5 ?qc6 ?_)
  case qc1=>exact HL.out
  case qc2=>exact fun j u hu=>(Grew.cell ((Grew.refl w).alloc _) (by
   have:=block_lt_of_cell (HC.out j u hu)
   exact this)).trans (HC.out j u hu)
  case qc3=>exact H1.out
  case qc4=>unfold maxLen;omega
  case qc5=>omega
  case qc6=>simp
  intro v' w1 hown hgrow _
  go_wp2
  go_ret
  refine⟨v',rfl,by simpa using hown,?_⟩
  exact Below.grown ((Below.refl w.heap.size w).alloc (Nat.le_refl _) _) hgrow (by simp) (fun k hk=>by simp[Value.ownBlock] at hk;omega)
theorem cinfoC:(Tryz.prog.info? 69).map (fun i=>(i.zero,i.size,i.bytes))=some (some (.agg #[.int .i64 0,.int .i64 0,.int .i64 0,.int .i64 0]),4,32):=by kernel_rfl
theorem one_cellsC (l:List Cm):∀ u∈l.flatMap Cm.cells,u.oneCell'=true:=by
 intro u hu
 rw[List.mem_flatMap] at hu
 obtain⟨x,_,hx⟩:=hu
 simp[Cm.cells] at hx
 rcases hx with rfl|rfl|rfl|rfl<;>rfl
set_option maxHeartbeats 1000000 in
theorem cloneC (l:List Cm) (v:Value) (w:World) (hv:SlC w v l) (hb:l.length*32≤140737488355328) :
  Calls Tryz.prog 126 #[v] w fun e w'=>∃ v',e=.returned v'∧w'.ownsRow w.heap.size 69 4 v' l.length (l.flatMap Cm.cells)∧Grew w w':=by
 obtain⟨A,n,c,rfl,hl,hn,hc,hr⟩:=hv
 have hfl:=flatMap_len Cm.cells 4 (fun _=>rfl) l
 obtain rfl:n=l.length:=by omega
 unfold maxLen at hc
 have q22:∀(w:World) (a:Option Addr) (n c:Nat),(binOp .eql 50 (.slice a n c) (.slice none 0 0)).run Tryz.prog w=.ok (.bool a.isNone) w:=fun w a n c=>Lib.run_eql_slice_nil w _ _ a n c 0 0 Tryz.underlying50
 cases A with
 | none =>
  have h0:l.length=0:=by
   rcases Nat.eq_zero_or_pos l.length with h|h
   ·exact h
   ·obtain⟨b,off,hA,_⟩:=hr h
    cases hA
  obtain rfl:l=[]:=List.eq_nil_of_length_eq_zero h0
  clear hr hl hn hfl h0 hb
  go_enter Tryz.func126,Tryz.ntmps126
  go_wp2
  go_ret
  exact⟨_,rfl,World.ownsRow_nil _ _ _ _,Grew.refl w⟩
 | some ad =>
  have hcells:∀ j u,(l.flatMap Cm.cells)[j]? = some u→w.cell? (ad.add j)=some u:=by
   intro j u hu
   have h0:0<l.length:=by
    rcases Nat.eq_zero_or_pos l.length with h|h
    ·have:=(List.getElem?_eq_some_iff.1 hu).1
     rw[hfl,h] at this
     omega
    ·exact h
   obtain⟨b,off,hA,_,hcell⟩:=hr h0
   cases hA
   rw[add_lit]
   exact hcell j u hu
  have HC:=Lib.hid hcells
  have H1:=Lib.hid (one_cellsC l)
  have HL:=Lib.hid hl
  generalize l.flatMap Cm.cells=cs at HC H1 HL ⊢
  clear hcells hr hl hfl
  obtain⟨i0,hi,hz0,hz1,hz2⟩:=info_parts cinfoC
  go_enter Tryz.func126,Tryz.ntmps126
  go_wp2_with (at_builtin;refine wpList_append_own _ rfl _ _ 50 rfl w.heap.size 69 i0 (.agg #[.int .i64 0,.int .i64 0,.int .i64 0,.int .i64 0]) 4 32 Tryz.underlying50 hi hz0 hz1 hz2 rfl (by omega) _ _ _ rfl (World.ownsRow_made w #[] 0 (Nat.le_refl _) (Nat.zero_le _) (by simp)) ad l.length c cs rfl ?qc1 ?qc2 ?qc3 ?qc4 ?qc5 ?qc6 ?_)
  case qc1=>exact HL.out
  case qc2=>exact fun j u hu=>(Grew.cell ((Grew.refl w).alloc _) (by
   have:=block_lt_of_cell (HC.out j u hu)
   exact this)).trans (HC.out j u hu)
  case qc3=>exact H1.out
  case qc4=>unfold maxLen;omega
  case qc5=>omega
  case qc6=>simp
  intro v' w1 hown hgrow _
  go_wp2
  go_ret
  refine⟨v',rfl,by simpa using hown,?_⟩
  exact Below.grown ((Below.refl w.heap.size w).alloc (Nat.le_refl _) _) hgrow (by simp) (fun k hk=>by simp[Value.ownBlock] at hk;omega)
end Go.Proofs.YtdochkemaiokfaaGreat
/- undo.evidence, walked. The conditions: each unit is created once; the log is not too long. -/
namespace Go.Proofs.YtdochkemaiokfaaGreat
open Go.RowKit
def clK (l:List Opn) (k:Nat):List Cm:=((l.take k).filter fun o=>o.kind == 1).map Opn.came
theorem clK_succ (l:List Opn) (k:Nat) (h:k<l.length):clK l (k+1)=clK l k++if l[k].kind == 1 then[l[k].came] else[]:=by
 unfold clK
 rw[List.take_succ_eq_append_getElem h,List.filter_append,List.map_append]
 congr 1
 cases hc:(l[k].kind == 1)<;>simp[hc]
theorem clK_len (l:List Opn) (k:Nat):(clK l k).length≤l.length:=by
 unfold clK
 rw[List.length_map]
 refine Nat.le_trans (List.length_filter_le _ _) ?_
 rw[List.length_take]
 omega
theorem insCm_perm (c:Cm):∀ l:List Cm,(l++[c]).Perm (insCm c l)
 | []=>List.Perm.refl _
 | x::r=>by
  unfold insCm
  split
  ·exact(insCm_perm c r).cons x
  ·exact List.perm_append_comm
theorem clK_perm:∀(n:Nat) (l:List Opn),l.length=n→(clK l l.length).Perm (evidF l)
 | 0,l,hn=>by rw[List.eq_nil_of_length_eq_zero hn];exact List.Perm.refl _
 | n+1,l,hn=>by
  have hb:l≠[]:=by intro e;rw[e] at hn;cases hn
  have hl:l.dropLast.length=n:=by rw[List.length_dropLast];omega
  have ih:=clK_perm n l.dropLast hl
  have hs:l=l.dropLast++[l.getLast hb]:=(List.dropLast_concat_getLast hb).symm
  generalize l.dropLast=m at ih hs
  generalize l.getLast hb=o at hs
  subst hs
  rw[evid_snoc]
  have e1:clK (m++[o]) (m++[o]).length=clK m m.length++if o.kind == 1 then[o.came] else[]:=by
   unfold clK
   rw[List.take_length,List.take_length,List.filter_append,List.map_append]
   congr 1
   cases hc:(o.kind == 1)<;>simp[hc]
  rw[e1]
  by_cases h:o.kind=1
  ·rw[if_pos h,if_pos (by simpa using h)]
   exact(List.Perm.append_right _ ih).trans (insCm_perm _ _)
  ·rw[if_neg h,if_neg (by simpa using h),List.append_nil]
   exact ih
def RetEv (m:List Cm) (w:World) (e:Ending) (w':World):Prop:=∃ A c,e=.returned (.slice A m.length c)∧w'.ownsRow w.heap.size 69 4 (.slice A m.length c) m.length (m.flatMap Cm.cells)∧Grew w w'
set_option maxHeartbeats 8000000 in
set_option maxRecDepth 100000 in
theorem uEvidence (l:List Opn) (lv:Value) (w:World) (hv:SlO w lv l) (hlen:l.length≤1000000) (hasc:(evidF l).Pairwise fun a b=>a.unit<b.unit):Calls Tryz.prog 52 #[lv] w (RetEv (evidF l) w):=by
 have KS:=Lib.hid (fun(h0:0<(clK l l.length).length) v W ho hg=>sortC_own (clK l l.length) (evidF l) h0 (clK_perm _ l rfl) hasc w v W ho hg (Nat.le_trans (clK_len l _) hlen))
 have KZ:=Lib.hid (fun(A:Option Addr) c fv W=>sort0C A c fv W)
 have HLN:=Lib.hid (clK_len l)
 have HCS:=Lib.hid (clK_succ l)
 have HPM:=Lib.hid (clK_perm _ l rfl).length_eq
 have HNIL:=Lib.hid (fun(h:(clK l l.length).length=0)=>(show evidF l=[] from List.eq_nil_of_length_eq_zero (by rw[← (clK_perm _ l rfl).length_eq,h])))
 generalize evidF l=M at KS HPM HNIL ⊢
 obtain⟨i0,hi,hz0,hz1,hz2⟩:=info_parts cinfoC
 obtain⟨A,c,rfl,hlc,hcap,hr⟩:=hv.open_
 unfold maxLen at hcap
 have HR:=Lib.hid hr
 clear hv hr hasc
 go_enter Tryz.func52,Tryz.ntmps52
 go_wp2
 go_loopg [3,8] l.length (fun gg s3 s8 wr=>∃ kk:Nat,kk≤l.length∧l.length-kk≤gg∧s8=.int .i64 kk∧Aside (wr.ownsRow w.heap.size 69 4 s3 (clK l kk).length ((clK l kk).flatMap Cm.cells))∧Aside (Grew w wr))
 case atStart=>exact⟨0,by omega,by omega,rfl,(show Aside _ from World.ownsRow_nil _ _ _ _),(show Aside _ from Grew.refl w)⟩
 case round =>
  obtain⟨kk,hkk,hgk,rfl,OW,GW⟩:=hrel
  by_cases hlt:kk<l.length
  case neg =>
   have hltz:¬ (kk:Int)<(l.length:Int):=by omega
   obtain rfl:kk=l.length:=by omega
   have how:=OW.out
   obtain⟨A3,c3,rfl⟩:=own_slice how
   have HOW:=Lib.hid how
   clear how OW
   by_cases h0:0<(clK l l.length).length
   ·have HK:=Lib.hid (KS.out h0 _ wr HOW.out GW.out)
    go_wp2_with fail
    refine HK.out.mono ?_
    rintro e w4 ⟨rfl,ho4,g4⟩
    have HO4:=Lib.hid ho4
    have HG4:=Lib.hid g4
    have HE:=Lib.hid HPM.out
    clear ho4 g4
    dsimp only
    go_wp2
    go_ret
    refine⟨A3,c3,?_,?_,HG4.out⟩
    ·rw[← HE.out];rfl
    ·rw[← HE.out]
     have:=HO4.out
     rw[← HE.out] at this
     exact this
   ·have hz:(clK l l.length).length=0:=by omega
    have hM:=HNIL.out hz
    subst hM
    have HZ:=Lib.hid hz
    clear h0
    have hcl:clK l l.length=[]:=List.eq_nil_of_length_eq_zero hz
    rw[hcl] at HOW ⊢
    clear hcl hz HZ KS HPM HNIL
    go_wp2_with fail
    refine(KZ.out _ _ _ _).mono ?_
    rintro e w4 ⟨rfl,rfl⟩
    dsimp only
    go_wp2
    go_ret
    exact⟨A3,c3,rfl,HOW.out,GW.out⟩
  case pos =>
   have hltz:(kk:Int)<(l.length:Int):=by omega
   obtain⟨b,off,rfl,hbb,hcell⟩:=HR.out (by omega)
   obtain⟨c0,c1,c2,c3,c4,c5,c6,c7,c8,c9,c10,c11⟩:=hcell wr GW.out kk hlt
   have hcs:=HCS.out kk hlt
   have hln:=HLN.out kk
   have hln2:(clK l kk).length≤1000000:=Nat.le_trans hln hlen
   generalize l[kk]=y at c0 c1 c2 c3 c4 c5 c6 c7 c8 c9 c10 c11 hcs
   generalize hK2:clK l (kk+1)=CK2 at hcs
   have HK2:=Lib.hid hK2
   generalize clK l kk=CK at OW hcs hln hln2
   have HCC:=Lib.hid hcs
   clear hcell hcs hK2 hln
   obtain⟨o0,o1,o2,o3,o4,o5,o6,o7,o8,o9,o10,o11⟩:=y
   dsimp only [Opn.came] at HCC c0 c1 c2 c3 c4 c5 c6 c7 c8 c9 c10 c11
   cases hk:(o2 == 1)
   ·have HE:RowKit.Hid (CK2=CK):=by
     show CK2=CK
     rw[HCC.out,hk];simp
    go_wp2
    go_roundg (l.length-(kk+1))
    case measure=>omega
    case rel=>exact⟨kk+1,by omega,by omega,by go_num,(show Aside _ from by rw[HK2.out,HE.out];exact own_later OW.out ((Grew.refl _).alloc _)),(show Aside _ from GW.out.alloc _)⟩
   ·have HE:RowKit.Hid (CK2=CK++[⟨o3,o9,o10,o11⟩]):=by
     show CK2=_
     rw[HCC.out,hk];rfl
    obtain⟨A3,c3',rfl⟩:=own_slice OW.out
    go_wp2_with (at_builtin;refine appR rfl _ _ 50 rfl w 69 i0 (.agg #[.int .i64 0,.int .i64 0,.int .i64 0,.int .i64 0]) 4 32 Tryz.underlying50 hi hz0 hz1 hz2 rfl (by omega) _ _ _ (by rfl) _ (own_later OW.out (((Grew.refl _).alloc _).alloc _)) ((GW.out.alloc _).alloc _) _ 1 [.int .i64 o3,.int .i64 o9,.int .i64 o10,.int .i64 o11] (by rfl) (rd_lit _ rfl _ (by simp)) rfl (by simp[Value.oneCell']) (by unfold maxLen;omega) (by omega) ?_;intro v8 w8 hown8 hg8 hkp8)
    have HO8:=Lib.hid hown8
    have HG8:=Lib.hid hg8
    clear hown8 hg8 hkp8
    go_roundg (l.length-(kk+1))
    case measure=>omega
    case rel=>exact⟨kk+1,by omega,by omega,by go_num,(show Aside _ from by rw[HK2.out,HE.out,List.flatMap_append,List.length_append];exact HO8.out),(show Aside _ from HG8.out)⟩
end Go.Proofs.YtdochkemaiokfaaGreat
/- The evidence of an admitted log is right; what the keeper asks, plainly. No condition. -/
namespace Go.Proofs.YtdochkemaiokfaaGreat
open Go.RowKit
def NoClash (a b:Cm):Prop:=b.acc=0∨a.acc≠b.acc∨(a.num≠b.num∧a.office=b.office)
theorem noClash_symm {a b:Cm} (h:NoClash a b):NoClash b a:=by
 unfold NoClash at h ⊢
 by_cases h1:a.acc=0
 ·exact .inl h1
 ·rcases h with h|h|⟨h2,h3⟩
  ·exact .inr (.inl (by omega))
  ·exact .inr (.inl (fun e=>h e.symm))
  ·exact .inr (.inr ⟨fun e=>h2 e.symm,h3.symm⟩)
theorem clash_zero (l:List Cm) (c:Cm):clashF l c=0↔∀ x∈l,NoClash x c:=by
 unfold clashF
 by_cases h0:c.acc=0
 ·rw[if_pos h0]
  exact⟨fun _ x _=>.inl h0,fun _=>rfl⟩
 rw[if_neg h0]
 constructor
 ·intro h x hx
  split at h
  ·cases h
  ·rename_i h1
   split at h
   ·cases h
   ·rename_i h2
    simp only [List.any_eq_true,Bool.and_eq_true,beq_iff_eq,bne_iff_ne,not_exists,not_and] at h1 h2
    by_cases ha:x.acc=c.acc
    ·refine .inr (.inr ⟨h1 x hx ha,?_⟩)
     have:=h2 x hx ha
     exact Classical.not_not.1 this
    ·exact .inr (.inl ha)
 ·intro h
  rw[if_neg,if_neg]
  ·simp only [List.any_eq_true,Bool.and_eq_true,beq_iff_eq,bne_iff_ne,not_exists,not_and,ne_eq,Classical.not_not]
   intro x hx ha
   rcases h x hx with h|h|⟨_,h⟩
   ·exact absurd h h0
   ·exact absurd ha h
   ·exact h
  ·simp only [List.any_eq_true,Bool.and_eq_true,beq_iff_eq,not_exists,not_and]
   intro x hx ha
   rcases h x hx with h|h|⟨h,_⟩
   ·exact absurd h h0
   ·exact absurd ha h
   ·exact h
def prevD (pre:List Cm) (c:Cm):Bool:=match pre.getLast? with
 | none=>true
 | some p=>decide (p.unit<c.unit)
theorem rightC_cons (pre:List Cm) (c:Cm) (r:List Cm):rightC pre (c::r)=(aloneC c && (prevD pre c && (clashF pre c == 0 && rightC (pre++[c]) r))):=rfl
theorem rightC_iff:∀(r pre:List Cm),pre.Pairwise (fun a b=>a.unit<b.unit)→(rightC pre r=true↔(∀ c∈r,aloneC c=true)∧(pre++r).Pairwise (fun a b=>a.unit<b.unit)∧(∀ a∈pre,∀ b∈r,NoClash a b)∧r.Pairwise NoClash)
 | [],pre,hp=>by simp[rightC,hp]
 | c::r,pre,hp=>by
  rw[rightC_cons]
  simp only [Bool.and_eq_true,beq_iff_eq]
  have hlast:prevD pre c=true↔∀ a∈pre,a.unit<c.unit:=by
   unfold prevD
   cases hg:pre.getLast? with
   | none=>rw[List.getLast?_eq_none_iff.1 hg];simp
   | some p =>
    obtain⟨m,hm⟩:=List.getLast?_eq_some_iff.1 hg
    subst hm
    simp only [decide_eq_true_eq]
    constructor
    ·intro h a ha
     rcases List.mem_append.1 ha with ha|ha
     ·have:=(List.pairwise_append.1 hp).2.2 a ha p (by simp)
      omega
     ·rw[List.mem_singleton.1 ha];exact h
    ·exact fun h=>h p (by simp)
  rw[hlast,clash_zero]
  constructor
  ·rintro ⟨h1,h2,h3,h4⟩
   have hp2:(pre++[c]).Pairwise (fun a b=>a.unit<b.unit):=List.pairwise_append.2 ⟨hp,by simp,fun a ha b hb=>by rw[List.mem_singleton.1 hb];exact h2 a ha⟩
   obtain⟨k1,k2,k3,k4⟩:=(rightC_iff r (pre++[c]) hp2).1 h4
   refine⟨fun x hx=>?_,?_,fun a ha b hb=>?_,?_⟩
   ·rcases List.mem_cons.1 hx with rfl|hx
    ·exact h1
    ·exact k1 x hx
   ·rwa [List.append_assoc,List.singleton_append] at k2
   ·rcases List.mem_cons.1 hb with rfl|hb
    ·exact h3 a ha
    ·exact k3 a (by simp[ha]) b hb
   ·exact List.pairwise_cons.2 ⟨fun b hb=>k3 c (by simp) b hb,k4⟩
  ·rintro ⟨k1,k2,k3,k4⟩
   have k2':(pre++[c]++r).Pairwise (fun a b=>a.unit<b.unit):=by rwa [List.append_assoc,List.singleton_append]
   have hp2:=(List.pairwise_append.1 k2').1
   obtain⟨k41,k42⟩:=List.pairwise_cons.1 k4
   refine⟨k1 c (by simp),fun a ha=>(List.pairwise_append.1 hp2).2.2 a ha c (by simp),fun a ha=>k3 a ha c (by simp),(rightC_iff r (pre++[c]) hp2).2 ⟨fun x hx=>k1 x (by simp[hx]),k2',fun a ha b hb=>?_,k42⟩⟩
   rcases List.mem_append.1 ha with ha|ha
   ·exact k3 a ha b (by simp[hb])
   ·rw[List.mem_singleton.1 ha];exact k41 b hb
theorem rightC_all (l:List Cm):rightC [] l=true↔(∀ c∈l,aloneC c=true)∧l.Pairwise (fun a b=>a.unit<b.unit)∧l.Pairwise NoClash:=by
 rw[rightC_iff l [] List.Pairwise.nil]
 simp
theorem insCm_noClash (c:Cm):∀ l:List Cm,l.Pairwise NoClash→(∀ x∈l,NoClash x c)→(insCm c l).Pairwise NoClash
 | [],_,_=>by simp[insCm]
 | y::r,h,hn=>by
  obtain⟨h1,h2⟩:=List.pairwise_cons.1 h
  unfold insCm
  split
  ·refine List.pairwise_cons.2 ⟨fun x hx=>?_,insCm_noClash c r h2 fun x hx=>hn x (List.mem_cons_of_mem _ hx)⟩
   rcases (mem_insCm _ _ _).1 hx with rfl|hx
   ·exact hn y List.mem_cons_self
   ·exact h1 x hx
  ·refine List.pairwise_cons.2 ⟨fun x hx=>noClash_symm (hn x hx),h⟩
theorem evid_right {l:List Opn} (h:AdmL l):(evidF l).length≤256∧rightC [] (evidF l)=true:=by
 induction h with
 | nil=>exact⟨by simp[evidF],rfl⟩
 | @snoc l o h ha ih =>
  rw[evid_snoc]
  split
  ·rename_i hk
   obtain⟨k1,k2,k3,k4,k5⟩:=addE_zero ((fault_more (admit_fault ha)).1 hk)
   obtain⟨r1,r2,r3⟩:=(rightC_all _).1 k2
   refine⟨by rw[len_insCm];omega,(rightC_all _).2 ⟨fun x hx=>?_,insCm_asc _ _ r2 k4,insCm_noClash _ _ r3 ((clash_zero _ _).1 k5)⟩⟩
   rcases (mem_insCm _ _ _).1 hx with rfl|hx
   ·exact k3
   ·exact r1 x hx
  ·exact ih
theorem formed_alone {o:Opn} (hf:formedO o=true) (hk:o.kind=1):aloneC o.came=true:=by
 unfold formedO kindF originF at hf
 rw[if_pos hk] at hf
 simp only [Bool.and_eq_true] at hf
 obtain⟨-,-,h1,-,-,-,-,h2,h3⟩:=hf
 unfold aloneC Opn.came
 simp only [Bool.and_eq_true]
 exact⟨h1,h2,h3⟩
theorem add_twice {l:List Opn} (h:AdmL l) {o:Opn} (hf:formedO o=true) (hk:o.kind=1) (hc:(ofC (evidF l) o.unit).isSome=true):addE (evidF l) o.came=6:=by
 obtain⟨h1,h2⟩:=evid_right h
 unfold addE
 rw[if_neg (by rw[h2];simp;omega),if_neg (by rw[formed_alone hf hk];decide),if_pos]
 rw[List.any_eq_true]
 cases hx:ofC (evidF l) o.unit with
 | none=>rw[hx] at hc;cases hc
 | some c =>
  unfold ofC at hx
  exact⟨c,List.mem_of_find?_eq_some hx,List.find?_some (p:=fun c:Cm=>c.unit == o.unit) hx⟩
theorem held_any {l:List Cm} (h:l.Pairwise fun a b=>a.unit<b.unit) (u:Int):(l.any fun x=>x.unit == u && x.acc != 0)=match ofC l u with
 | none=>false
 | some c=>c.acc != 0:=by
 cases hx:ofC l u with
 | none =>
  unfold ofC at hx
  rw[List.find?_eq_none] at hx
  rw[List.any_eq_false]
  intro y hy
  have:=hx y hy
  simp only [Bool.and_eq_true,not_and]
  exact fun e=>absurd e this
 | some c =>
  have hc:c∈l∧c.unit=u:=by
   unfold ofC at hx
   exact⟨List.mem_of_find?_eq_some hx,by have:=List.find?_some hx;simpa using this⟩
  show _=(c.acc != 0)
  rw[Bool.eq_iff_iff,List.any_eq_true]
  constructor
  ·rintro ⟨y,hy,h2⟩
   simp only [Bool.and_eq_true,beq_iff_eq] at h2
   have:=ofC_in h hy
   rw[h2.1,hx] at this
   rw[Option.some.inj this]
   exact h2.2
  ·exact fun h2=>⟨c,hc.1,by simp[hc.2,h2]⟩
theorem counts_any {l:List Opn} (h:LogOk l) {p:Opn} (hp:p∈l):((countI l).any fun q=>q.2.id == p.id)=countsB l p:=by
 rw[Bool.eq_iff_iff,List.any_eq_true]
 constructor
 ·rintro ⟨q,hq,he⟩
  obtain⟨h1,h2⟩:=countI_in hq
  have:q.2=p:=ids_same h.ids h1 hp (by simpa using he)
  rw[← this]
  exact h2
 ·intro hc
  obtain⟨i,hi⟩:=countI_of hp hc
  exact⟨_,hi,by simp⟩
end Go.Proofs.YtdochkemaiokfaaGreat
/- The order of texts, byte by byte. No condition. -/
namespace Go.Proofs.YtdochkemaiokfaaGreat
open Go.RowKit
theorem cbo_three:∀ a b:List UInt8,Lib.compareBytes a b=-1∨Lib.compareBytes a b=0∨Lib.compareBytes a b=1
 | [],[]=>.inr (.inl rfl)
 | [],_::_=>.inl rfl
 | _::_,[]=>.inr (.inr rfl)
 | a::ra,b::rb=>by
  rw[Lib.compareBytes]
  split
  ·exact .inl rfl
  ·split
   ·exact .inr (.inr rfl)
   ·exact cbo_three ra rb
theorem cbo_eq:∀ a b:List UInt8,Lib.compareBytes a b=0↔a=b
 | [],[]=>by simp[Lib.compareBytes]
 | [],_::_=>by simp[Lib.compareBytes]
 | _::_,[]=>by simp[Lib.compareBytes]
 | a::ra,b::rb=>by
  rw[Lib.compareBytes]
  split
  ·rename_i h
   simp only [List.cons.injEq]
   constructor
   ·intro h;cases h
   ·rintro ⟨rfl,_⟩
    exact absurd h (UInt8.lt_irrefl _)
  ·rename_i h
   split
   ·rename_i h2
    simp only [List.cons.injEq]
    constructor
    ·intro h;cases h
    ·rintro ⟨rfl,_⟩
     exact absurd h2 (UInt8.lt_irrefl _)
   ·rename_i h2
    rw[cbo_eq ra rb]
    have:a=b:=UInt8.le_antisymm (UInt8.not_lt.1 h2) (UInt8.not_lt.1 h)
    simp[this]
theorem cbo_trans:∀ a b c:List UInt8,Lib.compareBytes a b=-1→Lib.compareBytes b c=-1→Lib.compareBytes a c=-1
 | [],[],_=>by intro h;cases h
 | [],_::_,[]=>by intro _ h;cases h
 | [],_::_,_::_=>by intros;rfl
 | _::_,[],_=>by intro h;cases h
 | _::_,_::_,[]=>by intro _ h;cases h
 | a::ra,b::rb,c::cs=>by
  simp only [Lib.compareBytes,UInt8.lt_iff_toNat_lt]
  intro h1 h2
  have ih:=cbo_trans ra rb cs
  by_cases p1:a.toNat<b.toNat
  ·by_cases q1:b.toNat<c.toNat
   ·rw[if_pos (by omega)]
   ·rw[if_neg q1] at h2
    by_cases q2:c.toNat<b.toNat
    ·rw[if_pos q2] at h2;cases h2
    ·rw[if_pos (by omega)]
  ·rw[if_neg p1] at h1
   by_cases p2:b.toNat<a.toNat
   ·rw[if_pos p2] at h1;cases h1
   ·rw[if_neg p2] at h1
    by_cases q1:b.toNat<c.toNat
    ·rw[if_pos (by omega)]
    ·rw[if_neg q1] at h2
     by_cases q2:c.toNat<b.toNat
     ·rw[if_pos q2] at h2;cases h2
     ·rw[if_neg q2] at h2
      rw[if_neg (by omega),if_neg (by omega)]
      exact ih h1 h2
def mkLt (a b:ByteArray):Prop:=Lib.compareBytes a.data.toList b.data.toList=-1
theorem cbo_one:∀ a b:List UInt8,Lib.compareBytes a b=1→Lib.compareBytes b a=-1
 | [],[],h=>by simp[Lib.compareBytes] at h
 | [],_::_,h=>by simp[Lib.compareBytes] at h
 | _::_,[],_=>by simp[Lib.compareBytes]
 | a::x,b::y,h=>by
  have ih:=cbo_one x y
  rw[Lib.compareBytes] at h ⊢
  by_cases h1:a<b
  ·simp[h1] at h
  ·by_cases h2:b<a
   ·simp[h2]
   ·simp only [h1,h2,if_false] at h ⊢
    exact ih h
theorem mkLt_irr {a:ByteArray}:¬ mkLt a a:=fun h=>by
 rw[mkLt,(cbo_eq _ _).2 rfl] at h
 cases h
theorem mkLt_trans {a b c:ByteArray} (h:mkLt a b) (k:mkLt b c):mkLt a c:=cbo_trans _ _ _ h k
theorem mkLt_tri (a b:ByteArray):mkLt a b∨a=b∨mkLt b a:=by
 rcases cbo_three a.data.toList b.data.toList with h|h|h
 ·exact .inl h
 ·refine .inr (.inl ?_)
  have:=(cbo_eq _ _).1 h
  obtain⟨⟨x⟩⟩:=a
  obtain⟨⟨y⟩⟩:=b
  simpa using this
 ·exact .inr (.inr (cbo_one _ _ h))
theorem mkLt_no {a b c:ByteArray} (h:¬ mkLt a b) (k:¬ mkLt b c):¬ mkLt a c:=fun q=>by
 rcases mkLt_tri a b with h1|rfl|h1
 ·exact h h1
 ·exact k q
 ·exact k (mkLt_trans h1 q)
end Go.Proofs.YtdochkemaiokfaaGreat
/- The keeper in memory: its log, its tree, its evidence, and the map of the marks' owners. No condition. -/
namespace Go.Proofs.YtdochkemaiokfaaGreat
open Go.RowKit Go.Maps
theorem keyedT:Keyed Tryz.prog 9:=string_keyed Tryz.underlying9
def kT (m:ByteArray):Lit:=.string m.data.toList
theorem keyT (m:ByteArray) (h:m.size≤maxLen):keyOf Tryz.prog 9 (.string m)=some (kT m):=by
 unfold keyOf
 rw[Tryz.underlying9]
 simp[kT,mapKey,Tryz.underlying9,h]
theorem kT_inj {a b:ByteArray} (h:kT a=kT b):a=b:=by
 unfold kT at h
 injection h with h
 obtain⟨⟨x⟩⟩:=a
 obtain⟨⟨y⟩⟩:=b
 simpa using h
def OwnM (l:List Opn) (D:DataW Unit):Prop:=∀ m:ByteArray,has D (kT m)=(ownerF l m).isSome∧D.atKey (kT m) (.lit (.int .i64 0))=.lit (.int .i64 ((ownerF l m).getD 0))
theorem ownM_nil:OwnM [] (.map []):=fun _=>⟨rfl,rfl⟩
theorem owner_snoc (l:List Opn) (o:Opn) (m:ByteArray):ownerF (l++[o]) m=if marksB o=true∧o.mark=m then some o.unit else ownerF l m:=by
 unfold ownerF
 rw[List.reverse_append,List.reverse_singleton,List.singleton_append,List.find?_cons]
 by_cases h:marksB o=true∧o.mark=m
 ·rw[if_pos h]
  have:(marksB o && decide (o.mark=m))=true:=by rw[h.1,decide_eq_true h.2];rfl
  rw[this]
  rfl
 ·rw[if_neg h]
  have:(marksB o && decide (o.mark=m))=false:=by
   cases hm:marksB o
   ·rfl
   ·rw[hm] at h
    rw[decide_eq_false (fun e=>h ⟨rfl,e⟩)]
    rfl
  rw[this]
theorem ownM_skip {l:List Opn} {D:DataW Unit} (h:OwnM l D) {o:Opn} (hk:marksB o=false):OwnM (l++[o]) D:=fun m=>by
 rw[owner_snoc,if_neg (by rw[hk];simp)]
 exact h m
theorem ownM_put {l:List Opn} {D:DataW Unit} (h:OwnM l D) (hD:IsMap D) {o:Opn} (hk:marksB o=true):OwnM (l++[o]) (D.put (kT o.mark) (.lit (.int .i64 o.unit))):=fun m=>by
 rw[owner_snoc]
 by_cases he:o.mark=m
 ·subst he
  rw[if_pos ⟨hk,rfl⟩]
  exact⟨has_put_same hD (show WideAt.IsKeyLit (kT o.mark) from trivial) _,atKey_put_same hD (show WideAt.IsKeyLit (kT o.mark) from trivial) _ _⟩
 ·rw[if_neg (fun k=>he k.2)]
  have hne:kT m≠kT o.mark:=fun e=>he (kT_inj e).symm
  rw[has_put_other hne,atKey_put_other hne]
  exact h m
theorem plainElem_num {P:Program} {e:TypeId} {q:IntKind} (he:P.underlying e=some (.int q)) {v:Value} {z:DataW Unit × List MemPlace} (h:plainElem P e v=some z):∃ a,v=.int q a∧z=(.lit (.int q a),[]):=by
 obtain⟨a,h1,h2,-⟩:=plainElem_int_inv he h
 exact⟨a,h1,h2⟩
theorem ownM_look {l:List Opn} {D:DataW Unit} (h:OwnM l D) {w:World} {M n:Nat} (ho:w.ownsMap Tryz.prog 9 (plainElem Tryz.prog 3) M n D) {m:ByteArray} (hw:m.size≤maxLen) :
  (Instr.lookup 79 (.map (some M)) (.string m) true).run Tryz.prog w=.ok (.tuple #[.int .i64 ((ownerF l m).getD 0),.bool (ownerF l m).isSome]) w:=by
 have hz:(zeroValue 3).run Tryz.prog w=.ok (.int .i64 0) w:=by kernel_rfl
 obtain⟨v,ps,hrun,hv⟩:=ho.look_ok keyedT Tryz.underlying79 hz (plainElem_int Tryz.underlying3 (by decide)) (keyT m hw)
 obtain⟨a,rfl,hb⟩:=plainElem_num Tryz.underlying3 hv
 simp only [Prod.mk.injEq] at hb
 have:=hb.1
 obtain⟨h1,h2⟩:=h m
 rw[h2] at this
 simp only [DataW.lit.injEq,Lit.int.injEq] at this
 rw[hrun,h1,this.2]
structure KeepAt (w0:World) (KB MB:Nat) (l:List Opn) (t:Tr) (W:World):Prop where
 g:Grew w0 W
 kb:w0.heap.size≤KB
 mb:w0.heap.size≤MB
 cell:∃ A n c B m d E k f C q,W.heap[KB]? = some (.cells #[.slice E l.length k,.slice A n c,.slice B m d,.slice C (evidF l).length q,.map (some MB)] 81 (0,0))∧f=(0:Nat)∧SlO W (.slice E l.length k) l∧TrOk W (.slice A n c) (.slice B m d) t∧SlC W (.slice C (evidF l).length q) (evidF l)
 owns:∃ n D,W.ownsMap Tryz.prog 9 (plainElem Tryz.prog 3) MB n D∧n≤l.length∧OwnM l D
theorem KeepAt.grew {w0 W W':World} {KB MB:Nat} {l:List Opn} {t:Tr} (h:KeepAt w0 KB MB l t W) (g:Grew W W'):KeepAt w0 KB MB l t W':=by
 obtain⟨A,n,c,B,m,d,E,k,f,C,q,h1,h2,h3,h4,h5⟩:=h.cell
 obtain⟨n2,D,k1,k2,k3⟩:=h.owns
 exact⟨h.g.trans g,h.kb,h.mb,⟨A,n,c,B,m,d,E,k,f,C,q,heapKeep g h1,h2,h3.mono g,h4.mono g,h5.mono g⟩,n2,D,mapLat k1 g,k2,k3⟩
theorem FewTr_ok {l:List Opn} (h:AdmL l):FewTr (replayF l).1:=by
 refine replay_inv FewTr _ _ fewTr_nil (fun p hp t ht h0=>fewTr_right (applyR_right h0).2) (by show(replayF l).2.2=0;rw[adm_tree h])
end Go.Proofs.YtdochkemaiokfaaGreat
/- provenance: within, alone, clash and its closures, walked. The condition: the list is short. -/
namespace Go.Proofs.YtdochkemaiokfaaGreat
open Go.RowKit
theorem pWithin (n lo hi:Int) (w:World):Calls Tryz.prog 174 #[.int .i64 n,.int .i64 lo,.int .i64 hi] w fun e w'=>e=.returned (.bool (within n lo hi))∧w=w':=by
 unfold within
 cases a1:decide (lo≤n)<;>cases a2:decide (n≤hi)
 all_goals
  go_enter Tryz.func174,Tryz.ntmps174
  go_wp2
  go_ret
  exact⟨rfl,rfl⟩
set_option maxHeartbeats 2000000 in
theorem pAlone (c:Cm) (w:World):Calls Tryz.prog 121 #[c.agg] w fun e w'=>e=.returned (.bool (aloneC c))∧Grew w w':=by
 obtain⟨cu,co,ca,cn⟩:=c
 unfold Cm.agg aloneC
 dsimp only
 have K1:=Lib.hid (fun W=>pWithin ca 1 1073741824 W)
 have K2:=Lib.hid (fun W=>pWithin cn 1 9999 W)
 have K3:=Lib.hid (fun W=>pWithin cu 1 1073741824 W)
 have K4:=Lib.hid (fun W=>pWithin co 0 1073741824 W)
 generalize within ca 1 1073741824=q1 at K1 ⊢
 generalize within cn 1 9999=q2 at K2 ⊢
 generalize within cu 1 1073741824=q3 at K3 ⊢
 generalize within co 0 1073741824=q4 at K4 ⊢
 cases q1<;>cases q2<;>cases q3<;>cases q4<;>cases h1:(ca == 0)<;>cases h2:(cn == 0)
 all_goals
  go_enter Tryz.func121,Tryz.ntmps121
  go_wp2_with (first|(go_at_call 174;(with_reducible first|refine(K1.out _).mono ?_|refine(K2.out _).mono ?_|refine(K3.out _).mono ?_|refine(K4.out _).mono ?_);rintro e w1 ⟨rfl,rfl⟩))
  go_ret
  exact⟨rfl,((Grew.refl w).alloc _).alloc _⟩
theorem pClash1 (x c:Cm) (CB:Nat) (w:World) (h2:w.cell? ⟨CB,2,none⟩=some (.int .i64 c.acc)):Calls Tryz.prog 175 (#[x.agg] ++ #[.pointer (some ⟨CB,0,none⟩)]) w fun e w'=>e=.returned (.bool (x.acc == c.acc))∧Grew w w':=by
 obtain⟨xu,xo,xa,xn⟩:=x
 unfold Cm.agg
 have h3:=keep_cell ((Grew.refl w).alloc (.cells #[.int .i64 xu,.int .i64 xo,.int .i64 xa,.int .i64 xn] 69)) h2
 go_enter Tryz.func175,Tryz.ntmps175
 go_wp2
 go_ret
 exact⟨rfl,(Grew.refl w).alloc _⟩
theorem pClash2 (x c:Cm) (SB CB:Nat) (w:World) (h2:w.cell? ⟨CB,2,none⟩=some (.int .i64 c.acc)) (h3:w.cell? ⟨CB,3,none⟩=some (.int .i64 c.num)) (hs:w.cell? ⟨SB,0,none⟩=some (.func (.func 175) #[] #[.pointer (some ⟨CB,0,none⟩)])) :
  Calls Tryz.prog 177 (#[x.agg] ++ #[.pointer (some ⟨SB,0,none⟩),.pointer (some ⟨CB,0,none⟩)]) w fun e w'=>e=.returned (.bool (x.acc == c.acc && x.num == c.num))∧Grew w w':=by
 have K:=Lib.hid (fun W (hW:Grew w W)=>pClash1 x c CB W (keep_cell hW h2))
 obtain⟨xu,xo,xa,xn⟩:=x
 unfold Cm.agg at K ⊢
 dsimp only at K ⊢
 have g0:=(Grew.refl w).alloc (.cells #[.int .i64 xu,.int .i64 xo,.int .i64 xa,.int .i64 xn] 69)
 have s1:=keep_cell g0 hs
 have HG0:=Lib.hid g0
 have H3:=Lib.hid h3
 cases hq:(xa == c.acc)<;>rw[hq] at K
 all_goals
  clear h2 h3 hs g0
  go_enter Tryz.func177,Tryz.ntmps177
  go_wp2_with fail
  refine(K.out _ HG0.out).mono ?_
  rintro e w1 ⟨rfl,g1⟩
  have HG1:=Lib.hid (HG0.out.trans g1)
  have x3:=new_cell g1 3 _ rfl
  have c3:=keep_cell HG1.out H3.out
  clear g1 s1
  dsimp only
  go_wp2
  go_ret
  exact⟨rfl,HG1.out⟩
theorem pClash3 (x c:Cm) (SB CB:Nat) (w:World) (h2:w.cell? ⟨CB,2,none⟩=some (.int .i64 c.acc)) (h1:w.cell? ⟨CB,1,none⟩=some (.int .i64 c.office)) (hs:w.cell? ⟨SB,0,none⟩=some (.func (.func 175) #[] #[.pointer (some ⟨CB,0,none⟩)])) :
  Calls Tryz.prog 178 (#[x.agg] ++ #[.pointer (some ⟨SB,0,none⟩),.pointer (some ⟨CB,0,none⟩)]) w fun e w'=>e=.returned (.bool (x.acc == c.acc && x.office != c.office))∧Grew w w':=by
 have K:=Lib.hid (fun W (hW:Grew w W)=>pClash1 x c CB W (keep_cell hW h2))
 obtain⟨xu,xo,xa,xn⟩:=x
 unfold Cm.agg at K ⊢
 dsimp only at K ⊢
 have g0:=(Grew.refl w).alloc (.cells #[.int .i64 xu,.int .i64 xo,.int .i64 xa,.int .i64 xn] 69)
 have s1:=keep_cell g0 hs
 have HG0:=Lib.hid g0
 have H1:=Lib.hid h1
 cases hq:(xa == c.acc)<;>rw[hq] at K
 all_goals
  clear h2 h1 hs g0
  go_enter Tryz.func178,Tryz.ntmps178
  go_wp2_with fail
  refine(K.out _ HG0.out).mono ?_
  rintro e w1 ⟨rfl,g1⟩
  have HG1:=Lib.hid (HG0.out.trans g1)
  have x1:=new_cell g1 1 _ rfl
  have c1:=keep_cell HG1.out H1.out
  clear g1 s1
  dsimp only
  go_wp2
  go_ret
  exact⟨rfl,HG1.out⟩
theorem enters_pClash2:∀ args w,(callFunc 177 args).run Tryz.prog w=.ok (.enter 177 args) w:=enters_of Tryz.func177 (by kernel_rfl) rfl
theorem enters_pClash3:∀ args w,(callFunc 178 args).run Tryz.prog w=.ok (.enter 178 args) w:=enters_of Tryz.func178 (by kernel_rfl) rfl
theorem containsFuncC (l:List Cm) (p:Cm→Bool) (g:Nat) (lb:Array Value) (eg:∀ args w,(callFunc g args).run Tryz.prog w=.ok (.enter g args) w) (v:Value) (w:World) (hv:SlC w v l)
  (hp:∀ W x,Grew w W→x∈l→Calls Tryz.prog g (#[x.agg]++lb) W fun e w'=>e=.returned (.bool (p x))∧Grew W w') :
  Calls Tryz.prog 176 #[v,.func (.func g) #[] lb] w fun e w'=>e=.returned (.bool (l.any p))∧Grew w w':=by
 have k:=indexFuncC l p g lb eg v w hv hp
 have hany:=idxP_any p l
 generalize idxP p l=i at k hany
 have K:=Lib.hid k
 have HA:=Lib.hid hany
 clear k hp hv hany
 go_enter Tryz.func176,Tryz.ntmps176
 go_wp2_with (first|(go_at_call 61;refine K.out.mono ?_;rintro e w1 ⟨rfl,hg⟩))
 go_ret
 exact⟨ret_bool HA.out,hg⟩
end Go.Proofs.YtdochkemaiokfaaGreat