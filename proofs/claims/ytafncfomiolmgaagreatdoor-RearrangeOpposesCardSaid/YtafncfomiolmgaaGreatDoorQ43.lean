/- Lemmas on what the functions of the program and of the library compute: PlainRc, Rf16, EqU, Rf17, Rf18, Rf15, Rg6, FrameR. The conditions stand at each. -/
import Derived.Test.YtafncfomiolmgaaGreatDoorQ10
import Derived.Test.YtafncfomiolmgaaGreatDoorQ2
import Derived.Test.YtafncfomiolmgaaGreatDoorQ33
import Derived.Test.YtafncfomiolmgaaGreatDoorQ15
import Derived.Test.YtafncfomiolmgaaGreatDoorQ22
import Derived.Test.YtafncfomiolmgaaGreatDoorQ4
import Derived.Test.YtafncfomiolmgaaGreatDoorQ14
import Derived.Test.YtafncfomiolmgaaGreatDoorQ32
import Derived.Test.YtafncfomiolmgaaGreatDoorQ8
import Derived.Test.YtafncfomiolmgaaGreatDoorQ36
import Derived.Test.YtafncfomiolmgaaGreatDoorQ26
import Derived.Test.YtafncfomiolmgaaGreatDoorQ40
import Derived.Test.YtafncfomiolmgaaGreatDoorQ31
import Derived.Deep.RegionHeld3
import Derived.Test.YtafncfomiolmgaaGreatDoorCards
import Derived.Test.YtafncfomiolmgaaGreatDoorTie
import Derived.Test.YtafncfomiolmgaaGreatDoorQ1
import Derived.Test.YtafncfomiolmgaaGreatDoorQ3
import Derived.WalkKit
import Derived.ProofKit
import Derived.OpenShut
import Derived.Carry
import Derived.ChangeMaps5
import Derived.SliceStrings
import Derived.Deep.Slices
import Derived.Deep.DeepHandedRow
import Derived.Lib.LaidTab
import Derived.LaidSub
import Derived.Shelf.Vars
namespace Go.Proofs.YtafncfomiolmgaaGreatDoor
open Go.RowKit
def difU (a b:Tr) (n:Int):Bool:=decide (brFind (a.brs.map core) n≠brFind (b.brs.map core) n)
def difStep (a b:Tr) (l:List Int) (x:Br):List Int:=if difU a b x.id=true then insU x.id l else l
def difL (a b:Tr) (L:List Br):List Int:=L.foldl (difStep a b) []
theorem difL_take (a b:Tr) (L:List Br) (k:Nat) (h:k<L.length):difL a b (L.take (k+1))=difStep a b (difL a b (L.take k)) L[k]:=by
 unfold difL
 rw[List.take_succ_eq_append_getElem h,List.foldl_append]
 rfl
theorem len_insU (n:Int):∀ l:List Int,(insU n l).length≤l.length+1
 | []=>by simp[insU]
 | x::r=>by
  have ih:=len_insU n r
  unfold insU
  split
  ·simp only [List.length_cons]
   omega
  ·split
   ·simp
   ·simp
theorem difL_len (a b:Tr) (L:List Br):∀ l:List Int,(L.foldl (difStep a b) l).length≤l.length+L.length:=by
 induction L with
 | nil=>exact fun l=>by simp
 | cons x r ih =>
  intro l
  have h1:=ih (difStep a b l x)
  have h2:(difStep a b l x).length≤l.length+1:=by
   unfold difStep
   split
   ·exact len_insU _ _
   ·omega
  simp only [List.foldl_cons,List.length_cons]
  omega
theorem difL_mem (a b:Tr) (L:List Br):∀(l:List Int) (n:Int),n∈L.foldl (difStep a b) l↔n∈l∨∃ x∈L,x.id=n∧difU a b n=true:=by
 induction L with
 | nil=>exact fun l n=>by simp
 | cons y r ih =>
  intro l n
  rw[List.foldl_cons,ih]
  have h:n∈difStep a b l y↔n∈l∨(y.id=n∧difU a b n=true):=by
   unfold difStep
   by_cases hd:difU a b y.id=true
   ·rw[if_pos hd,mem_insU]
    constructor
    ·rintro (rfl|h)
     ·exact .inr ⟨rfl,hd⟩
     ·exact .inl h
    ·rintro (h|⟨rfl,_⟩)
     ·exact .inr h
     ·exact .inl rfl
   ·rw[if_neg hd]
    constructor
    ·exact .inl
    ·rintro (h|⟨rfl,h⟩)
     ·exact h
     ·exact absurd h hd
  rw[h]
  constructor
  ·rintro ((h|⟨h1,h2⟩)|⟨x,hx,h1,h2⟩)
   ·exact .inl h
   ·exact .inr ⟨y,List.mem_cons_self ..,h1,h2⟩
   ·exact .inr ⟨x,List.mem_cons_of_mem _ hx,h1,h2⟩
  ·rintro (h|⟨x,hx,h1,h2⟩)
   ·exact .inl (.inl h)
   ·rcases List.mem_cons.1 hx with rfl|hx
    ·exact .inl (.inr ⟨h1,h2⟩)
    ·exact .inr ⟨x,hx,h1,h2⟩
theorem difL_asc (a b:Tr) (L:List Br):∀ l:List Int,Asc l→Asc (L.foldl (difStep a b) l):=by
 induction L with
 | nil=>exact fun l h=>h
 | cons x r ih =>
  intro l h
  rw[List.foldl_cons]
  refine ih _ ?_
  unfold difStep
  split
  ·exact asc_insU _ _ h
  ·exact h
theorem difL_is (a b:Tr):ChgIs a b (difL a b (a.brs++b.brs)) where
 asc:=difL_asc a b _ _ List.Pairwise.nil
 mem:=fun n=>by
  unfold difL
  rw[difL_mem]
  constructor
  ·rintro (h|⟨_,_,_,h⟩)
   ·cases h
   ·exact of_decide_eq_true h
  ·intro h
   refine .inr ?_
   have key:∀ t:Tr,(∀ x∈t.brs,x.id≠n)→brFind (t.brs.map core) n=none:=fun t ht=>(find_none n).2 fun c hc=>by
    obtain⟨x,hx,rfl⟩:=List.mem_map.1 hc
    exact ht x hx
   by_cases ha:∃ x∈a.brs,x.id=n
   ·obtain⟨x,hx,e⟩:=ha
    exact⟨x,List.mem_append_left _ hx,e,decide_eq_true h⟩
   ·by_cases hb:∃ x∈b.brs,x.id=n
    ·obtain⟨x,hx,e⟩:=hb
     exact⟨x,List.mem_append_right _ hx,e,decide_eq_true h⟩
    ·rw[key a fun x hx e=>ha ⟨x,hx,e⟩,key b fun x hx e=>hb ⟨x,hx,e⟩] at h
     exact absurd rfl h
end Go.Proofs.YtafncfomiolmgaaGreatDoor
namespace Go.Proofs.YtafncfomiolmgaaGreatDoor
open Go.RowKit
set_option maxHeartbeats 4000000 in
theorem refChangedNo (a b:Tr) (ra ba rb bb:Value) (w:World) (har:SlI w ra a.roots) (hav:SlBr w ba a.brs) (hbr:SlI w rb b.roots) (hbv:SlBr w bb b.brs) (hfa:FewBr a.brs) (hfb:FewBr b.brs) (hla:a.roots.length≤1000000) (hlb:b.roots.length≤1000000)
  (hma:∀ i (h:i<a.brs.length),a.brs[i].mark.size≤9223372036854775807) (hmb:∀ i (h:i<b.brs.length),b.brs[i].mark.size≤9223372036854775807) (hno:¬ (RightT a∧RightT b)) :
  Calls Tryz.prog 26 #[.agg #[ra,ba],.agg #[rb,bb]] w fun e w'=>e=.returned (.tuple #[.slice none 0 0,.int .i64 1])∧Grew w w':=by
 have KA:=uZ (fun W (hW:Grew w W)=>refRight19 a.roots a.brs ra ba W (har.mono hW) (hav.mono hW) hfa hla hma)
 have KB:=uZ (fun W (hW:Grew w W)=>refRight19 b.roots b.brs rb bb W (hbr.mono hW) (hbv.mono hW) hfb hlb hmb)
 obtain⟨Aa,ca,rfl,-⟩:=SlI.open_ har
 obtain⟨Ba,da,rfl,-⟩:=SlBr.open_ hav
 obtain⟨Ab,cb,rfl,-⟩:=SlI.open_ hbr
 obtain⟨Bb,db,rfl,-⟩:=SlBr.open_ hbv
 have HNO:=uZ hno
 have HB:=uZ (fun(r1 b1 r2 b2:Value) W (g:Grew ((w.alloc (.cells [r1,b1].toArray 35)).alloc (.cells [r2,b2].toArray 35)) W)=>(by
  have e:(w.alloc (.cells [r1,b1].toArray 35)).heap.size=w.heap.size+1:=size_allocB _ _
  have h0:=yQ g 0 _ rfl
  have h1:=yQ g 1 _ rfl
  rw[e] at h0 h1
  exact⟨h0,h1⟩:W.cell? ⟨w.heap.size+1,0,none⟩=some r2∧W.cell? ⟨w.heap.size+1,1,none⟩=some b2))
 clear har hav hbr hbv hfa hfb hla hlb hma hmb hno
 go_enter Tryz.func26,Tryz.ntmps26
 go_wp2_with fail
 refine(KA.out _ (((uX w).alloc _).alloc _)).mono ?_
 rintro e w1 ⟨q,rfl,hq,g1⟩
 have HQ:=uZ hq
 have HG:=uZ ((((uX w).alloc _).alloc _).trans g1)
 obtain⟨b0,b1⟩:=HB.out _ _ _ _ w1 g1
 clear hq g1
 dsimp only
 cases q
 ·go_wp2
  go_ret2
  exact⟨rfl,HG.out⟩
 ·go_wp2_with fail
  refine(KB.out _ HG.out).mono ?_
  rintro e w2 ⟨q2,rfl,hq2,g2⟩
  have HQ2:=uZ hq2
  have HG2:=uZ (HG.out.trans g2)
  clear hq2 g2 b0 b1
  dsimp only
  cases q2
  ·go_wp2
   go_ret2
   exact⟨rfl,HG2.out⟩
  ·exact absurd ⟨by have h:=HQ.out;simpa using h,by have h:=HQ2.out;simpa using h⟩ HNO.out
end Go.Proofs.YtafncfomiolmgaaGreatDoor
namespace Go.Proofs.YtafncfomiolmgaaGreatDoor
open Go.RowKit
@[go_sem ↓] theorem neqU (w:World) (x0 y0 x1 y1 x2 y2:Int) (x3 y3 x4 y4:ByteArray):(binOp .neq 51 (.agg #[.int .i64 x0,.int .i64 x1,.int .i64 x2,.string x3,.string x4]) (.agg #[.int .i64 y0,.int .i64 y1,.int .i64 y2,.string y3,.string y4])).run Tryz.prog w=.ok (.bool (!((x0 == y0) && ((x1 == y1) && ((x2 == y2) && ((x3.toList == y3.toList) && (x4.toList == y4.toList))))))) w:=by
 have hS:Tryz.prog.underlying 51=some (.struct (Tryz.prog.fieldsOf 51)):=by kernel_rfl
 have hp:Tryz.prog.stoodInHeld 51=false:=by kernel_rfl
 rw[run_neq_struct,show(10000:Nat)=9999+1 from rfl,run_equalIn_agg w 9999 51 _ _ hS hp]
 simp only [Program.fieldsOf,Tryz.underlying51]
 go_simp
 by_cases h0:x0=y0
 ·by_cases h1:x1=y1
  ·by_cases h2:x2=y2
   ·by_cases h3:x3.toList=y3.toList
    ·by_cases h4:x4.toList=y4.toList<;>simp[h0,h1,h2,h3,h4]
    ·simp[h0,h1,h2,h3]
   ·simp[h0,h1,h2]
  ·simp[h0,h1]
 ·simp[h0]
theorem toList_injU {x y:ByteArray}:x.toList=y.toList↔x=y:=by
 rw[ByteArray.toList_eq,ByteArray.toList_eq]
 constructor
 ·intro h
  obtain⟨⟨a⟩⟩:=x
  obtain⟨⟨b⟩⟩:=y
  simpa using h
 ·exact fun h=>by rw[h]
theorem find_core (l:List Br) (n:Int):brFind (l.map core) n=(brFind l n).map core:=by
 unfold brFind
 rw[List.find?_map]
 congr 1
theorem core_eq (x y:Br):core x=core y↔((x.id == y.id) && ((x.parent == y.parent) && ((x.level == y.level) && ((x.title.toList == y.title.toList) && (x.mark.toList == y.mark.toList)))))=true:=by
 unfold core
 simp only [Br.mk.injEq,Bool.and_eq_true,beq_iff_eq,toList_injU,and_true]
theorem difU_is (a b:Tr) (n:Int):difU a b n=(((brFind a.brs n).isSome != (brFind b.brs n).isSome) || !((((brFind a.brs n).getD br0).id == ((brFind b.brs n).getD br0).id) && ((((brFind a.brs n).getD br0).parent == ((brFind b.brs n).getD br0).parent) && ((((brFind a.brs n).getD br0).level == ((brFind b.brs n).getD br0).level) && ((((brFind a.brs n).getD br0).title.toList == ((brFind b.brs n).getD br0).title.toList) && (((brFind a.brs n).getD br0).mark.toList == ((brFind b.brs n).getD br0).mark.toList)))))):=by
 unfold difU
 rw[find_core,find_core]
 cases brFind a.brs n with
 | none =>
  cases brFind b.brs n with
  | none=>simp
  | some y=>simp
 | some x =>
  cases brFind b.brs n with
  | none=>simp
  | some y =>
   have h:=core_eq x y
   simp only [Option.map_some,Option.getD_some,Option.isSome_some,bne_self_eq_false,Bool.false_or,ne_eq,Option.some.injEq]
   cases hE:((x.id == y.id) && ((x.parent == y.parent) && ((x.level == y.level) && ((x.title.toList == y.title.toList) && (x.mark.toList == y.mark.toList))))) with
   | true=>rw[hE] at h;simp[h.2 rfl]
   | false=>rw[hE] at h;simp;exact fun e=>by have:=h.1 e;cases this
end Go.Proofs.YtafncfomiolmgaaGreatDoor
namespace Go.Proofs.YtafncfomiolmgaaGreatDoor
open Go.RowKit
set_option maxRecDepth 100000 in
theorem c_48 {p:Prop} (h:p:=by
 rw[hc] at hD
 have HD:=uZ (show D=true from hD)
 clear hD
 go_wp2_with fail
 refine(KI.out _ (uX _)).mono ?_
 rintro e wI ⟨vI,rfl,hvI,gI⟩
 have HVI:=uZ hvI
 have GI:=uZ (GWB.out.trans gI)
 clear hvI gI
 dsimp only
 go_wp2
 go_roundg (L.length-(k+1))
 case measure=>omega
 case rel=>exact⟨k+1,by omega,by omega,by go_num,(show Aside _ from HYES.out HD.out _ _ HVI.out),(show Aside _ from GI.out)⟩):p:=h
set_option maxRecDepth 100000 in
theorem c_50 {p:Prop} (h:p:=by
 clear hD
 go_wp2_with fail
 refine(KI.out _ (uX _)).mono ?_
 rintro e wI ⟨vI,rfl,hvI,gI⟩
 have HVI:=uZ hvI
 have GI:=uZ (GWB.out.trans gI)
 clear hvI gI
 dsimp only
 go_wp2
 go_roundg (L.length-(k+1))
 case measure=>omega
 case rel=>exact⟨k+1,by omega,by omega,by go_num,(show Aside _ from HYES.out HD.out _ _ HVI.out),(show Aside _ from GI.out)⟩):p:=h
set_option maxRecDepth 100000 in
theorem c_53 {p:Prop} (h:p:=by
 rw[hc] at hD
 have HD:=uZ (show D=false from hD)
 clear hD
 go_wp2
 go_roundg (L.length-(k+1))
 case measure=>omega
 case rel=>exact⟨k+1,by omega,by omega,by go_num,(show Aside _ from HNOT.out HD.out _ _ HLB.out),(show Aside _ from GWB.out)⟩):p:=h
def UCut (W0:World) (f:Br) (q:Bool) (s9 s10:Value) (wx:World):Prop:=∃ X,s9=.pointer (some ⟨X,0,none⟩)∧s10=.bool q∧(wx.cell? ⟨X,0,none⟩=some (.int .i64 f.id)∧wx.cell? ⟨X,1,none⟩=some (.int .i64 f.parent)∧wx.cell? ⟨X,2,none⟩=some (.int .i64 f.level)∧wx.cell? ⟨X,3,none⟩=some (.string f.title)∧wx.cell? ⟨X,4,none⟩=some (.string f.mark))∧Grew W0 wx
theorem u_meet {W0 W:World} {X:Nat} {f:Br} {q:Bool} (hX:W.heap[X]? = some (.cells #[.int .i64 0,.int .i64 0,.int .i64 0,.string ⟨#[]⟩,.string ⟨#[]⟩] 51 (0,0))) (hlo:W0.heap.size≤X) (hG:Grew W0 W):UCut W0 f q (.pointer (some ⟨X,0,none⟩)) (.bool q) (((((W.setCell ⟨X,0,none⟩ (.int .i64 f.id)).setCell ⟨X,1,none⟩ (.int .i64 f.parent)).setCell ⟨X,2,none⟩ (.int .i64 f.level)).setCell ⟨X,3,none⟩ (.string f.title)).setCell ⟨X,4,none⟩ (.string f.mark)):=by
 have k0:=heap_setCell_same W X 0 _ _ (.int .i64 f.id) hX
 have k1:=heap_setCell_same _ X 1 _ _ (.int .i64 f.parent) k0
 have k2:=heap_setCell_same _ X 2 _ _ (.int .i64 f.level) k1
 have k3:=heap_setCell_same _ X 3 _ _ (.string f.title) k2
 have k4:=heap_setCell_same _ X 4 _ _ (.string f.mark) k3
 refine⟨X,rfl,rfl,unit_cells (by simpa using k4),?_⟩
 exact((((hG.setCell hlo _).setCell hlo _).setCell hlo _).setCell hlo _).setCell hlo _
theorem u_meet2 {W0 W:World} {f:Br} {q:Bool} (hG:Grew W0 W):UCut W0 f q (.pointer (some ⟨W.heap.size,0,none⟩)) (.bool q) (W.alloc (.cells #[.int .i64 f.id,.int .i64 f.parent,.int .i64 f.level,.string f.title,.string f.mark] 51)) :=
 ⟨_,rfl,rfl,unit_cells (heap_allocE rfl),hG.alloc _⟩
theorem uz_facts {w:World} {X:Nat} (h:w.heap[X]? = some (.cells #[.int .i64 0,.int .i64 0,.int .i64 0,.string ⟨#[]⟩,.string ⟨#[]⟩] 51 (0,0))):(w.cell? ⟨X,0,none⟩=some (.int .i64 0)∧w.cell? ⟨X,1,none⟩=some (.int .i64 0)∧w.cell? ⟨X,2,none⟩=some (.int .i64 0)∧w.cell? ⟨X,3,none⟩=some (.string ⟨#[]⟩)∧w.cell? ⟨X,4,none⟩=some (.string ⟨#[]⟩))∧∀ j,w.frozen? ⟨X,j,none⟩=false:=by
 simp[World.cell?,World.frozen?,h]
set_option maxHeartbeats 8000000 in
set_option maxRecDepth 100000 in
theorem refChangedYes (a b:Tr) (ra ba rb bb:Value) (w:World) (har:SlI w ra a.roots) (hav:SlBr w ba a.brs) (hbr:SlI w rb b.roots) (hbv:SlBr w bb b.brs) (hfa:FewBr a.brs) (hfb:FewBr b.brs) (hla:a.roots.length≤1000000) (hlb:b.roots.length≤1000000)
  (hma:∀ i (h:i<a.brs.length),a.brs[i].mark.size≤9223372036854775807) (hmb:∀ i (h:i<b.brs.length),b.brs[i].mark.size≤9223372036854775807) (hRa:RightT a) (hRb:RightT b) :
  Calls Tryz.prog 26 #[.agg #[ra,ba],.agg #[rb,bb]] w fun e w'=>∃ v,e=.returned (.tuple #[v,.int .i64 0])∧SlI w' v (difL a b (a.brs++b.brs))∧Grew w w':=by
 have KA:=uZ (fun W (hW:Grew w W)=>refRight19 a.roots a.brs ra ba W (har.mono hW) (hav.mono hW) hfa hla hma)
 have KB:=uZ (fun W (hW:Grew w W)=>refRight19 b.roots b.brs rb bb W (hbr.mono hW) (hbv.mono hW) hfb hlb hmb)
 have KFA:=uZ (fun W id (hW:Grew w W)=>refFind19 a.brs id ra ba W (hav.mono hW))
 have KFB:=uZ (fun W id (hW:Grew w W)=>refFind19 b.brs id rb bb W (hbv.mono hW))
 obtain⟨i0,hi0,hz0,hz1,hz2⟩:=info_parts cinfoB
 obtain⟨csa,hBa,hca,hoka⟩:=hav
 obtain⟨csb,hBb,hcb,hokb⟩:=hbv
 have h1a:∀ c∈csa,c.kv.oneCell'=true:=by
  intro c hc
  obtain⟨i,hi,rfl⟩:=List.mem_iff_getElem.1 hc
  exact slI_one (hoka i hi b_37).2
 have h1b:∀ c∈csb,c.kv.oneCell'=true:=by
  intro c hc
  obtain⟨i,hi,rfl⟩:=List.mem_iff_getElem.1 hc
  exact slI_one (hokb i hi b_37).2
 have HBA:=uZ (show ∀ W,Grew w W→Rd W 6 ba (csa.flatMap BrC.cells) from fun W hW=>Rd.mono hBa hW)
 have HBB:=uZ (show ∀ W,Grew w W→Rd W 6 bb (csb.flatMap BrC.cells) from fun W hW=>Rd.mono hBb hW)
 have hna:=hfa.1
 have hnb:=hfb.1
 obtain⟨Aa,ca,rfl,-⟩:=SlI.open_ har
 obtain⟨Ab,cb,rfl,-⟩:=SlI.open_ hbr
 obtain⟨Ba,da,e1,-⟩:=SlB.open_ hBa
 obtain⟨Bb,db,e2,-⟩:=SlB.open_ hBb
 subst e1 e2
 have HOA:=uZ hoka
 have HOB:=uZ hokb
 have HCA:=uZ hca
 have HCB:=uZ hcb
 have H1A:=uZ (one_cellsB csa h1a)
 have H1B:=uZ (one_cellsB csb h1b)
 have hlxa:=flatMap_len BrC.cells 6 (fun _=>rfl) csa
 have hlxb:=flatMap_len BrC.cells 6 (fun _=>rfl) csb
 rw[← hca] at hna
 rw[← hcb] at hnb
 have HRA:=uZ hRa
 have HRB:=uZ hRb
 clear hoka hokb hca hcb h1a h1b hBa hBb har hbr hfa hfb hla hlb hma hmb hRa hRb
 have HB:=uZ (fun(r1 b1 r2 b2:Value) W (g:Grew ((w.alloc (.cells [r1,b1].toArray 35)).alloc (.cells [r2,b2].toArray 35)) W)=>(by
  have e:(w.alloc (.cells [r1,b1].toArray 35)).heap.size=w.heap.size+1:=size_allocB _ _
  have h0:=yQ g 0 _ rfl
  have h1:=yQ g 1 _ rfl
  rw[e] at h0 h1
  have g1:Grew (w.alloc (.cells [r1,b1].toArray 35)) W:=((uX _).alloc _).trans g
  exact⟨yQ g1 0 _ rfl,yQ g1 1 _ rfl,h0,h1⟩:W.cell? ⟨w.heap.size,0,none⟩=some r1∧W.cell? ⟨w.heap.size,1,none⟩=some b1∧W.cell? ⟨w.heap.size+1,0,none⟩=some r2∧W.cell? ⟨w.heap.size+1,1,none⟩=some b2))
 have HBC:=uZ (fun W g=>HB.out (.slice Aa a.roots.length ca) (.slice Ba csa.length da) (.slice Ab b.roots.length cb) (.slice Bb csb.length db) W g)
 clear HB
 have GA:=uZ (((uX w).alloc (.cells [.slice Aa a.roots.length ca,.slice Ba csa.length da].toArray 35)).alloc (.cells [.slice Ab b.roots.length cb,.slice Bb csb.length db].toArray 35))
 generalize hRS:difL a b (a.brs++b.brs)=RS
 have HRS:=uZ hRS
 clear hRS
 go_enter Tryz.func26,Tryz.ntmps26
 go_wp2_with fail
 generalize (w.alloc (.cells [.slice Aa a.roots.length ca,.slice Ba csa.length da].toArray 35)).alloc (.cells [.slice Ab b.roots.length cb,.slice Bb csb.length db].toArray 35)=WA at GA HBC ⊢
 refine(KA.out _ GA.out).mono ?_
 rintro e w1 ⟨q,rfl,hq,g1⟩
 obtain rfl:=hq.2 HRA.out
 have HG:=uZ g1
 obtain⟨x0,x1,y0,y1⟩:=HBC.out w1 g1
 clear hq g1
 dsimp only
 go_wp2_with fail
 refine(KB.out _ (GA.out.trans HG.out)).mono ?_
 rintro e w2 ⟨q2,rfl,hq2,g2⟩
 obtain rfl:=hq2.2 HRB.out
 have HG2:=uZ (HG.out.trans g2)
 clear hq2 g2 x0 x1 y0 y1 HG KA KB
 obtain⟨x0,x1,y0,y1⟩:=HBC.out w2 HG2.out
 dsimp only
 go_wp2_with fail
 go_region_held3 (fun W=>W.cell? ⟨w.heap.size,1,none⟩=some (.slice Ba csa.length da)∧W.cell? ⟨w.heap.size+1,1,none⟩=some (.slice Bb csb.length db)) (exact⟨uQ b_5 x1,uQ b_5 y1⟩) (first|(refine stepR (o:=⟨some 24,_,_,_,_,_⟩) b_39 (.tmp 21) (.tmp 23) 33 b_39 w2 53 i0 (.agg #[.int .i64 0,.int .i64 0,.int .i64 0,.string ⟨#[]⟩,.string ⟨#[]⟩,.slice none 0 0]) 6 80 Tryz.underlying33 hi0 hz0 hz1 hz2 rfl b_37 _ 0 [] b_39 _ (own_lit w2.heap.size b_38 (Nat.le_refl _)) b_5 _ csa.length (csa.flatMap BrC.cells) b_39 (HBA.out _ (GA.out.trans (HG2.out.trans b_5))) hlxa H1A.out b_34 b_37 ?_;intro v5 w5 o5 g5 _;simp only [Nat.zero_add,List.nil_append] at o5;obtain⟨A5,c5,rfl⟩:=own_slice o5;have O5:=uZ o5;have G5:=uZ g5;clear o5 g5)|(refine stepR (o:=⟨some 27,_,_,_,_,_⟩) b_39 (.tmp 24) (.tmp 26) 33 b_39 w2 53 i0 (.agg #[.int .i64 0,.int .i64 0,.int .i64 0,.string ⟨#[]⟩,.string ⟨#[]⟩,.slice none 0 0]) 6 80 Tryz.underlying33 hi0 hz0 hz1 hz2 rfl b_37 _ csa.length (csa.flatMap BrC.cells) b_39 _ O5.out G5.out _ csb.length (csb.flatMap BrC.cells) b_39 (HBB.out _ (GA.out.trans (HG2.out.trans b_5))) hlxb H1B.out b_34 b_37 ?_;intro v6 w6 o6 g6 _;obtain⟨A6,c6,rfl⟩:=own_slice o6;have O6:=uZ o6;have G6:=uZ g6;clear o6 g6))
 have HV:=uZ (show SlBr w6 (.slice A6 (csa.length+csb.length) c6) (a.brs++b.brs) from⟨csa++csb,(by have h:=Rd.of_own O6.out;rw[← List.flatMap_append] at h;exact h),(by rw[List.length_append,List.length_append,HCA.out,HCB.out]),fun i h h2=>(by
  have g6:=GA.out.trans (HG2.out.trans G6.out)
  by_cases hi:i<csa.length
  ·have hi2:i<a.brs.length:=by rw[← HCA.out];exact hi
   rw[List.getElem_append_left hi,List.getElem_append_left hi2]
   exact⟨(HOA.out i hi hi2).1,(HOA.out i hi hi2).2.mono g6⟩
  ·have hi2:¬ i<a.brs.length:=by rw[← HCA.out];exact hi
   rw[List.getElem_append_right b_37,List.getElem_append_right b_37]
   have hb:=HOB.out (i-csa.length) (by rw[List.length_append] at h;omega) (by rw[List.length_append] at h2;have:=HCA.out;omega)
   have e:i-a.brs.length=i-csa.length:=by rw[HCA.out]
   simp only [e]
   exact⟨hb.1,hb.2.mono g6⟩)⟩)
 clear x0 x1 y0 y1 G5 O5 O6 HBA HBB H1A H1B hlxa hlxb
 have hNL:(a.brs++b.brs).length≤1000:=by
  rw[List.length_append]
  have h3:=HRA.out.1
  have h4:=HRB.out.1
  have h1:=HCA.out
  have h2:=HCB.out
  omega
 clear hna hnb HOA HOB HCA HCB
 generalize csa.length+csb.length=N at HV ⊢
 have HDL:=uZ (fun k h=>difL_take a b (a.brs++b.brs) k h)
 have HDN:=uZ (fun k=>difL_len a b ((a.brs++b.brs).take k) [])
 have HFIN:=uZ (show difL a b ((a.brs++b.brs).take (a.brs++b.brs).length)=RS by rw[List.take_length];exact HRS.out)
 clear HRS
 generalize a.brs++b.brs=L at *
 obtain⟨A',c',e,-,-,hrow⟩:=SlBr.open_ HV.out
 injection e with e1 e2 e3
 subst e1 e2 e3
 have HRW:=uZ hrow
 have HGW:=uZ (GA.out.trans (HG2.out.trans G6.out))
 have HGA:=uZ (HG2.out.trans G6.out)
 clear hrow HV HRA HRB G6 HG2 GA
 go_wp2_with fail
 go_loopg [6,8] L.length (fun gg s6 s8 wr=>∃ k:Nat,k≤L.length∧L.length-k≤gg∧s8=.int .i64 k∧Aside (SlI wr s6 (difL a b (L.take k)))∧Aside (Grew w6 wr))
 case atStart=>exact⟨0,by omega,by omega,rfl,(show Aside _ from by rw[List.take_zero];exact SlI.nil _),(show Aside _ from uX _)⟩
 case round =>
  obtain⟨k,hkl,hgk,rfl,HL,GW⟩:=hrel
  obtain⟨x0,x1,y0,y1⟩:=HBC.out wr (HGA.out.trans GW.out)
  by_cases hlt:k<L.length
  rotate_left
  ·have hltz:¬ (k:Int)<(L.length:Int):=by omega
   obtain rfl:k=L.length:=by omega
   have hl:=HL.out
   rw[HFIN.out] at hl
   obtain⟨A9,n9,c9,rfl⟩:∃ A n c,u6=.slice A n c:=by obtain⟨A,c,e,-⟩:=SlI.open_ hl;exact⟨A,_,c,e⟩
   have HLF:=uZ hl
   clear hl HL
   go_wp2
   go_ret2
   exact⟨_,rfl,HLF.out,HGW.out.trans GW.out⟩
  have hltz:(k:Int)<(L.length:Int):=by omega
  have h0z:(0:Int)≤(k:Int):=by omega
  obtain⟨bb6,off6,rfl,-,hcell⟩:=HRW.out b_37
  obtain⟨kv,-,hcl⟩:=hcell k hlt
  obtain⟨c0,-⟩:=hcl wr GW.out
  have HCL:=uZ (fun W hW=>(hcl W hW).1)
  have HDK:=uZ (HDL.out k hlt)
  clear hcell hcl
  generalize L[k]=y at c0 HCL HDK
  have kfa:=fun W (hW:Grew w W)=>KFA.out W y.id hW
  unfold TFindEnd at kfa
  generalize hfa:(brFind a.brs y.id).getD br0=fa at kfa
  generalize hqa:(brFind a.brs y.id).isSome=qa at kfa
  have KFA2:=uZ kfa
  have HSA:=uZ (show _∧_∧_ from⟨x0,x1,c0⟩)
  have HFA:=uZ (show _∧_ from⟨hfa,hqa⟩)
  clear kfa hfa hqa
  go_wp2_with fail
  go_cut [9,10] from 34 to 45 (fun s9 s10 wx=>UCut wr fa qa s9 s10 wx)
  case first =>
   go_region_held3 (fun W=>W.cell? ⟨w.heap.size,0,none⟩=some (.slice Aa a.roots.length ca)∧W.cell? ⟨w.heap.size,1,none⟩=some (.slice Ba csa.length da)∧W.cell? ⟨bb6,off6+k*6,none⟩=some (.int .i64 y.id)) (exact three_grow HSA.out (by repeat (first|exact uX _|exact GFA.out|refine uJ ?_|refine uU ?_ _|refine yZ ?_ (by first|exact Nat.le_refl _|exact GFA.out.size|simp) _))) (((go_at_call 62;refine(KFA2.out _ ((HGW.out.trans GW.out).trans b_22)).mono ?_;rintro e wfA ⟨rfl,gf⟩;have GFA:=uZ (show Grew wr wfA from uY b_22 gf);(first|have PA:=uK (show Grew (wr.alloc (.cells [.int .i64 0,.int .i64 0,.int .i64 0,.string ⟨#[]⟩,.string ⟨#[]⟩].toArray 51)) wfA from uY (uX _).drew gf) (heap_allocE (a:=wr) (p:=(.cells [.int .i64 0,.int .i64 0,.int .i64 0,.string ⟨#[]⟩,.string ⟨#[]⟩].toArray 51)) rfl)|have PA:=uK (show Grew (wr.alloc (.cells [.int .i64 0,.int .i64 0,.int .i64 0,.string ⟨#[]⟩,.string ⟨#[]⟩].toArray 51)) wfA from uY (uX _) gf) (heap_allocE (a:=wr) (p:=(.cells [.int .i64 0,.int .i64 0,.int .i64 0,.string ⟨#[]⟩,.string ⟨#[]⟩].toArray 51)) rfl)|skip);(try (have uf:=uz_facts PA;obtain⟨⟨p0,p1,p2,p3,p4⟩,pz⟩:=uf;have zz0:=pz 0;have zz1:=pz 1;have zz2:=pz 2;have zz3:=pz 3;have zz4:=pz 4;clear pz));clear gf)))
   all_goals go_wp2_with fail
   all_goals go_meet
   all_goals with_reducible first|exact u_meet2 GFA.out|exact u_meet PA (Nat.le_refl _) GFA.out
  case rest =>
   skip
   obtain⟨wA,hwA⟩:∃ wA,wA=wc:=⟨_,rfl⟩
   subst hwA
   obtain⟨Xa,rfl,rfl,hua,gA⟩:=hcut
   have HUA:=uZ hua
   have GWA:=uZ (GW.out.trans gA)
   have HLA:=uZ (SlI.mono HL.out gA)
   have kfb:=fun W (hW:Grew w W)=>KFB.out W y.id hW
   unfold TFindEnd at kfb
   generalize hfb:(brFind b.brs y.id).getD br0=fb at kfb
   generalize hqb:(brFind b.brs y.id).isSome=qb at kfb
   have KFB2:=uZ kfb
   obtain⟨-,-,y0,y1⟩:=HBC.out wA (HGA.out.trans GWA.out)
   have HSB:=uZ (show _∧_∧_ from⟨y0,y1,HCL.out wA GWA.out⟩)
   have HFB:=uZ (show _∧_ from⟨hfb,hqb⟩)
   clear kfb hfb hqb hua gA HL HSA x0 x1 c0 KFA2
   go_wp2_with fail
   go_cut [11,12] from 45 to 56 (fun s9 s10 wx=>UCut wA fb qb s9 s10 wx)
   case first =>
    go_region_held3 (fun W=>W.cell? ⟨w.heap.size+1,0,none⟩=some (.slice Ab b.roots.length cb)∧W.cell? ⟨w.heap.size+1,1,none⟩=some (.slice Bb csb.length db)∧W.cell? ⟨bb6,off6+k*6,none⟩=some (.int .i64 y.id)) (exact three_grow HSB.out (by repeat (first|exact uX _|exact GFB.out|refine uJ ?_|refine uU ?_ _|refine yZ ?_ (by first|exact Nat.le_refl _|exact GFB.out.size|simp) _))) (((go_at_call 62;refine(KFB2.out _ ((HGW.out.trans GWA.out).trans b_22)).mono ?_;rintro e wfB ⟨rfl,gf⟩;have GFB:=uZ (show Grew wA wfB from uY b_22 gf);(first|have PA:=uK (show Grew (wA.alloc (.cells [.int .i64 0,.int .i64 0,.int .i64 0,.string ⟨#[]⟩,.string ⟨#[]⟩].toArray 51)) wfB from uY (uX _).drew gf) (heap_allocE (a:=wA) (p:=(.cells [.int .i64 0,.int .i64 0,.int .i64 0,.string ⟨#[]⟩,.string ⟨#[]⟩].toArray 51)) rfl)|have PA:=uK (show Grew (wA.alloc (.cells [.int .i64 0,.int .i64 0,.int .i64 0,.string ⟨#[]⟩,.string ⟨#[]⟩].toArray 51)) wfB from uY (uX _) gf) (heap_allocE (a:=wA) (p:=(.cells [.int .i64 0,.int .i64 0,.int .i64 0,.string ⟨#[]⟩,.string ⟨#[]⟩].toArray 51)) rfl)|skip);(try (have uf:=uz_facts PA;obtain⟨⟨p0,p1,p2,p3,p4⟩,pz⟩:=uf;have zz0:=pz 0;have zz1:=pz 1;have zz2:=pz 2;have zz3:=pz 3;have zz4:=pz 4;clear pz));clear gf)))
    all_goals go_wp2_with fail
    all_goals go_meet
    all_goals with_reducible first|exact u_meet2 GFB.out|exact u_meet PA (Nat.le_refl _) GFB.out
   case rest =>
    skip
    obtain⟨wB,hwB⟩:∃ wB,wB=wc:=⟨_,rfl⟩
    subst hwB
    obtain⟨Xb,rfl,rfl,⟨v0,v1,v2,v3,v4⟩,gB⟩:=hcut
    obtain⟨z0,z1,z2,z3,z4⟩:=HUA.out
    replace z0:=uQ gB z0
    replace z1:=uQ gB z1
    replace z2:=uQ gB z2
    replace z3:=uQ gB z3
    replace z4:=uQ gB z4
    have GWB:=uZ (GWA.out.trans gB)
    have HLB:=uZ (SlI.mono HLA.out gB)
    have c0:=HCL.out wB GWB.out
    have hD:=difU_is a b y.id
    rw[HFA.out.1,HFA.out.2,HFB.out.1,HFB.out.2] at hD
    have hstep:=HDK.out
    unfold difStep at hstep
    have hlen:(difL a b (L.take k)).length≤1000000:=by
     have h1:=HDN.out k
     have h2:(L.take k).length≤L.length:=by rw[List.length_take];omega
     unfold difL
     simp only [List.length_nil] at h1
     omega
    generalize difU a b y.id=D at hD hstep
    have kI:=fun W (hW:Grew wB W)=>refInsert (difL a b (L.take k)) y.id u6 W (SlI.mono HLB.out hW) hlen
    have HL2:=uZ hstep
    clear hstep hlen gB HLA HUA HFA HFB HSB KFB2 y0 y1 HDN
    generalize difL a b (L.take k)=M at kI HL2 HLB
    generalize y.id=yi at c0 kI HL2
    have KI:=uZ kI
    clear kI
    obtain⟨A9,c9,e9,-⟩:=SlI.open_ HLB.out
    subst e9
    obtain⟨fai,fap,fal,fat,fam,fak⟩:=fa
    obtain⟨fbi,fbp,fbl,fbt,fbm,fbk⟩:=fb
    dsimp only at z0 z1 z2 z3 z4 v0 v1 v2 v3 v4 hD
    have HYES:=uZ (fun(h:D=true) W v (h2:SlI W v (insU yi M))=>show SlI W v (difL a b (L.take (k+1))) from by rw[HL2.out,if_pos h];exact h2)
    have HNOT:=uZ (fun(h:D=false) W v (h2:SlI W v M)=>show SlI W v (difL a b (L.take (k+1))) from by rw[HL2.out,h];exact h2)
    clear HL2
    cases qa<;>cases qb
    ·cases hc:((fai == fbi) && ((fap == fbp) && ((fal == fbl) && ((fat.toList == fbt.toList) && (fam.toList == fbm.toList))))) with
     | true =>
      exact c_53
     | false =>
      exact c_48
    ·have HD:=uZ (show D=true from hD)
     exact c_50
    ·have HD:=uZ (show D=true from hD)
     exact c_50
    ·cases hc:((fai == fbi) && ((fap == fbp) && ((fal == fbl) && ((fat.toList == fbt.toList) && (fam.toList == fbm.toList))))) with
     | true =>
      exact c_53
     | false =>
      exact c_48
end Go.Proofs.YtafncfomiolmgaaGreatDoor
namespace Go.Proofs.YtafncfomiolmgaaGreatDoor
open Go.RowKit
open Classical in
noncomputable def chgR (a b:Tr):List Int × Int:=if RightT a∧RightT b then(difL a b (a.brs++b.brs),0) else([],1)
theorem chgR_yes {a b:Tr} (h:RightT a∧RightT b):chgR a b=(difL a b (a.brs++b.brs),0):=by
 unfold chgR
 rw[if_pos h]
theorem chgR_no {a b:Tr} (h:¬ (RightT a∧RightT b)):chgR a b=([],1):=by
 unfold chgR
 rw[if_neg h]
theorem chg_is {a b:Tr} {w w':World} {e:Ending} (h:RetChg a b w e w'):RetIs (chgR a b) w e w':=by
 obtain⟨v,n,l,rfl,hs,hg,h1,h2⟩:=h
 by_cases hR:RightT a∧RightT b
 ·obtain⟨rfl,hc⟩:=h1 hR
  rw[chgR_yes hR]
  have:=chg_unique hc (difL_is a b)
  exact⟨v,rfl,this▸hs,hg⟩
 ·obtain⟨rfl,rfl⟩:=h2 hR
  rw[chgR_no hR]
  exact⟨v,rfl,hs,hg⟩
theorem refChanged (a b:Tr) (ra ba rb bb:Value) (w:World) (har:SlI w ra a.roots) (hav:SlBr w ba a.brs) (hbr:SlI w rb b.roots) (hbv:SlBr w bb b.brs) (hfa:FewBr a.brs) (hfb:FewBr b.brs) (hla:a.roots.length≤1000000) (hlb:b.roots.length≤1000000)
  (hma:∀ i (h:i<a.brs.length),a.brs[i].mark.size≤9223372036854775807) (hmb:∀ i (h:i<b.brs.length),b.brs[i].mark.size≤9223372036854775807) :
  Calls Tryz.prog 26 #[.agg #[ra,ba],.agg #[rb,bb]] w (RetIs (chgR a b) w):=by
 by_cases hR:RightT a∧RightT b
 ·rw[chgR_yes hR]
  exact refChangedYes a b ra ba rb bb w har hav hbr hbv hfa hfb hla hlb hma hmb hR.1 hR.2
 ·rw[chgR_no hR]
  exact(refChangedNo a b ra ba rb bb w har hav hbr hbv hfa hfb hla hlb hma hmb hR).mono fun _ _ h=>⟨_,h.1,SlI.nil _,h.2⟩
end Go.Proofs.YtafncfomiolmgaaGreatDoor
namespace Go.Proofs.YtafncfomiolmgaaGreatDoor
open Go.RowKit
theorem behind_hit (n:Int) (l:List Int) (k:Nat) (h:k+1<l.length) (e:l[k]=n):behindF n (l.drop k)=l[k+1]:=by
 have h1:l.drop k=l[k]::l.drop (k+1):=by rw[List.getElem_cons_drop]
 have h2:l.drop (k+1)=l[k+1]::l.drop (k+1+1):=by rw[List.getElem_cons_drop]
 rw[h1,h2]
 unfold behindF
 rw[if_pos e]
 rfl
theorem behind_miss (n:Int) (l:List Int) (k:Nat) (h:k<l.length) (e:l[k]≠n):behindF n (l.drop k)=behindF n (l.drop (k+1)):=by
 have h1:l.drop k=l[k]::l.drop (k+1):=by rw[List.getElem_cons_drop]
 rw[h1]
 show(if l[k]=n then(l.drop (k+1)).headD 0 else behindF n (l.drop (k+1)))=_
 rw[if_neg e]
theorem behind_end (n:Int) (l:List Int) (k:Nat) (h:l.length≤k+1):behindF n (l.drop k)=0:=by
 have h1:(l.drop k).length≤1:=by rw[List.length_drop];omega
 match hl:l.drop k,h1 with
 | [],_=>rfl
 | [x],_ =>
  unfold behindF
  split
  ·rfl
  ·rfl
 | _::_::_,h2=>simp at h2
set_option maxHeartbeats 4000000 in
theorem refBehind (t:Tr) (ui up ul:Int) (ut um:ByteArray) (rv bv:Value) (w:World) (hr:SlI w rv t.roots) (hv:SlBr w bv t.brs) (hf:FewBr t.brs) (hrl:t.roots.length≤1000000) :
  Calls Tryz.prog 63 #[.agg #[rv,bv],.agg #[.int .i64 ui,.int .i64 up,.int .i64 ul,.string ut,.string um]] w fun e w'=>e=.returned (.int .i64 (behindF ui (childs t up)))∧Grew w w':=by
 have kch:=fun W (hW:Grew w W)=>refChildren t.roots t.brs up rv bv W (hr.mono hW) (hv.mono hW) hf hrl
 rw[show childs ⟨t.roots,t.brs⟩ up=childs t up from rfl] at kch
 have hkl:=childs_few hf hrl up
 obtain⟨Ar,cr,rfl,-⟩:=SlI.open_ hr
 obtain⟨Ab,cb,rfl,-⟩:=SlBr.open_ hv
 generalize childs t up=KS at kch hkl ⊢
 have HD0:=uZ (show behindF ui (KS.drop 0)=behindF ui KS by rw[List.drop_zero])
 have HH:=uZ (fun k h e=>behind_hit ui KS k h e)
 have HM:=uZ (fun k h e=>behind_miss ui KS k h e)
 have HN:=uZ (fun k h=>behind_end ui KS k h)
 generalize hRS:behindF ui KS=RS at HD0 ⊢
 have KCH:=uZ kch
 clear hr hv hf hrl kch hRS
 have GA:=uZ (((uX w).alloc (.cells #[.slice Ar t.roots.length cr,.slice Ab t.brs.length cb] 35)).alloc (.cells #[.int .i64 ui,.int .i64 up,.int .i64 ul,.string ut,.string um] 51))
 have hUA:=heap_allocE (a:=w.alloc (.cells #[.slice Ar t.roots.length cr,.slice Ab t.brs.length cb] 35)) (X:=w.heap.size+1) (p:=.cells #[.int .i64 ui,.int .i64 up,.int .i64 ul,.string ut,.string um] 51) b_38
 go_enter Tryz.func63,Tryz.ntmps63
 go_wp2_with fail
 generalize (w.alloc (.cells #[.slice Ar t.roots.length cr,.slice Ab t.brs.length cb] 35)).alloc (.cells #[.int .i64 ui,.int .i64 up,.int .i64 ul,.string ut,.string um] 51)=WA at hUA GA ⊢
 refine(KCH.out _ GA.out).mono ?_
 rintro e w1 ⟨v1,rfl,hv1,g1,-⟩
 have HU:=uZ (uK g1 hUA)
 have HG:=uZ (GA.out.trans g1)
 obtain⟨A1,c1,rfl,-,-,hcell⟩:=SlI.open_ hv1
 have HC:=uZ hcell
 clear hUA GA g1 hv1 hcell KCH
 dsimp only
 go_wp2_with fail
 go_loopg [6] KS.length (fun gg s6 wr=>∃ k:Nat,k≤KS.length∧KS.length-k≤gg∧s6=.int .i64 k∧Aside (behindF ui (KS.drop k)=RS)∧Aside (Grew w1 wr))
 case atStart=>exact⟨0,by omega,by omega,rfl,(show Aside _ from HD0.out),(show Aside _ from uX _)⟩
 case round =>
  obtain⟨k,hkl2,hgk,rfl,HB,GW⟩:=hrel
  by_cases hlt:k+1<KS.length
  ·have hltz:(k:Int)+1<(KS.length:Int):=by omega
   have h0z:(0:Int)≤(k:Int):=by omega
   have hkz:(k:Int)<(KS.length:Int):=by omega
   have hn3:((k:Int)+1).toNat=k+1:=by omega
   have hn4:(0:Int)≤(k:Int)+1:=by omega
   obtain⟨bb,off,rfl,-,hcell⟩:=HC.out b_37
   have d0:=hcell wr GW.out k (by omega:k<KS.length)
   obtain⟨u0,-⟩:=unit_cells (uK GW.out HU.out)
   have hk1:k<KS.length:=by omega
   have HHK:=uZ (fun(h:KS[k]'hk1=ui)=>HH.out k hlt h)
   have HMK:=uZ (fun(h:KS[k]'hk1≠ui)=>HM.out k hk1 h)
   have hce:=fun W (hW:Grew w1 W)=>hcell W hW (k+1) hlt
   have HCE:=uZ hce
   clear hcell hce
   generalize KS[k]=y at d0 HHK HMK
   generalize KS[k+1]=z at HCE HHK
   by_cases hid:y=ui
   ·have hb1:(y == ui)=true:=by simpa using hid
    have hz:z=RS:=by rw[← HB.out,HHK.out hid]
    subst hz
    clear hid HHK HMK
    have d1:=HCE.out (wr.drewN 0) (GW.out.drewN _)
    go_wp2_with fail
    go_quiet (fail)
    have d2:=HCE.out (wr.drewN nq) (GW.out.drewN _)
    go_wp2
    go_ret
    exact⟨rfl,HG.out.trans (GW.out.drewN _)⟩
   ·have hb1:(y == ui)=false:=by simpa using hid
    have HNX:=uZ ((HMK.out hid).symm.trans HB.out)
    clear hid HHK HMK HB
    go_wp2_with fail
    go_quiet (fail)
    go_wp2_with fail
    go_roundg (KS.length-(k+1))
    case measure=>omega
    case rel=>exact⟨k+1,by omega,by omega,by go_num,(show Aside _ from HNX.out),(show Aside _ from GW.out.drewN _)⟩
  ·have hltz:¬ (k:Int)+1<(KS.length:Int):=by omega
   have hz:RS=0:=by rw[← HB.out];exact HN.out k b_37
   subst hz
   go_wp2
   go_ret
   exact⟨rfl,HG.out.trans GW.out⟩
end Go.Proofs.YtafncfomiolmgaaGreatDoor
namespace Go.Proofs.YtafncfomiolmgaaGreatDoor
open Go.RowKit
set_option maxHeartbeats 8000000 in
set_option maxRecDepth 100000 in
theorem refOppNo (t:Tr) (o:Opn) (rv bv:Value) (w:World) (hr:SlI w rv t.roots) (hv:SlBr w bv t.brs) (hf:FewBr t.brs) (hrl:t.roots.length≤1000000) (hm:∀ b∈t.brs,b.mark.size≤100) (hom:o.mark.size≤100) (hne:(applyR t o).2≠0) :
  Calls Tryz.prog 24 #[.agg #[rv,bv],o.agg] w (RetOp (opn0,(applyR t o).2) w):=by
 have KA:=uZ (fun W (hW:Grew w W)=>refApply t o rv bv W (hr.mono hW) (hv.mono hW) hf hrl hm hom)
 obtain⟨Ar,cr,rfl,-⟩:=hr.open_
 obtain⟨Ab,cb,rfl,-⟩:=hv.open_
 generalize applyR t o=RES at KA hne ⊢
 obtain⟨RT,n⟩:=RES
 dsimp only at hne ⊢
 have hn2:(n != 0)=true:=by simpa using hne
 have HB:=uZ (fun W=>opp_blocks w 35 25 25 (.slice Ar t.roots.length cr) (.slice Ab t.brs.length cb) o W)
 clear hr hv hf hrl hm hom hne
 obtain⟨i,d,k,u,p,b,l,tt,m,x9,x10,x11⟩:=o
 unfold Opn.agg at KA ⊢
 dsimp only at KA ⊢
 go_enter Tryz.func24,Tryz.ntmps24
 exact c_26
set_option maxHeartbeats 16000000 in
set_option maxRecDepth 100000 in
theorem refOpp1 (t:Tr) (o:Opn) (rv bv:Value) (w:World) (hr:SlI w rv t.roots) (hv:SlBr w bv t.brs) (hf:FewBr t.brs) (hrl:t.roots.length≤1000000) (hm:∀ b∈t.brs,b.mark.size≤100) (hom:o.mark.size≤100) (hz:(applyR t o).2=0) (hk:o.kind=1) (ho:brFind t.brs o.unit=none) :
  Calls Tryz.prog 24 #[.agg #[rv,bv],o.agg] w (RetOp (oppO t o,0) w):=by
 have KA:=uZ (fun W (hW:Grew w W)=>refApply t o rv bv W (hr.mono hW) (hv.mono hW) hf hrl hm hom)
 have kF:=fun W (hW:Grew w W)=>refFind19 t.brs o.unit rv bv W (hv.mono hW)
 rw[ho] at kF
 have hres:oppO t o=⟨o.id,o.day,5,o.unit,0,0,0,⟨#[]⟩,⟨#[]⟩,0,0,0⟩:=by
  unfold oppO
  rw[ho]
 rw[hres]
 obtain⟨Ar,cr,rfl,-⟩:=hr.open_
 obtain⟨Ab,cb,rfl,-⟩:=hv.open_
 generalize applyR t o=RES at KA hz
 obtain⟨RT,n⟩:=RES
 dsimp only at hz
 subst hz
 have HB:=uZ (fun W=>opp_blocks w 35 25 25 (.slice Ar t.roots.length cr) (.slice Ab t.brs.length cb) o W)
 clear hr hv hf hrl hm hom ho hres
 obtain⟨i,d,k,u,p,b,l,tt,m,x9,x10,x11⟩:=o
 dsimp only at hk
 subst hk
 unfold TFindEnd at kF
 unfold Opn.agg at KA ⊢
 dsimp only [Option.getD_some,Option.getD_none,Option.isSome_some,Option.isSome_none,br0] at KA kF ⊢
 have KF:=uZ kF
 clear kF
 go_enter Tryz.func24,Tryz.ntmps24
 exact c_16
set_option maxHeartbeats 16000000 in
set_option maxRecDepth 100000 in
theorem refOpp3 (t:Tr) (o:Opn) (rv bv:Value) (w:World) (hr:SlI w rv t.roots) (hv:SlBr w bv t.brs) (hf:FewBr t.brs) (hrl:t.roots.length≤1000000) (hm:∀ b∈t.brs,b.mark.size≤100) (hom:o.mark.size≤100) (hz:(applyR t o).2=0) (hk:o.kind=3) (ub:Br) (ho:brFind t.brs o.unit=some ub) :
  Calls Tryz.prog 24 #[.agg #[rv,bv],o.agg] w (RetOp (oppO t o,0) w):=by
 have KA:=uZ (fun W (hW:Grew w W)=>refApply t o rv bv W (hr.mono hW) (hv.mono hW) hf hrl hm hom)
 have kF:=fun W (hW:Grew w W)=>refFind19 t.brs o.unit rv bv W (hv.mono hW)
 rw[ho] at kF
 have hres:oppO t o=⟨o.id,o.day,3,o.unit,0,0,0,ub.title,⟨#[]⟩,0,0,0⟩:=by
  unfold oppO
  rw[ho]
  dsimp only
  rw[if_neg b_37,if_pos hk]
 rw[hres]
 obtain⟨Ar,cr,rfl,-⟩:=hr.open_
 obtain⟨Ab,cb,rfl,-⟩:=hv.open_
 generalize applyR t o=RES at KA hz
 obtain⟨RT,n⟩:=RES
 dsimp only at hz
 subst hz
 have HB:=uZ (fun W=>opp_blocks w 35 25 25 (.slice Ar t.roots.length cr) (.slice Ab t.brs.length cb) o W)
 clear hr hv hf hrl hm hom ho hres
 obtain⟨i,d,k,u,p,b,l,tt,m,x9,x10,x11⟩:=o
 dsimp only at hk
 subst hk
 unfold TFindEnd at kF
 unfold Opn.agg at KA ⊢
 dsimp only [Option.getD_some,Option.getD_none,Option.isSome_some,Option.isSome_none,br0] at KA kF ⊢
 have KF:=uZ kF
 clear kF
 go_enter Tryz.func24,Tryz.ntmps24
 exact c_12
set_option maxHeartbeats 16000000 in
set_option maxRecDepth 100000 in
theorem refOpp4 (t:Tr) (o:Opn) (rv bv:Value) (w:World) (hr:SlI w rv t.roots) (hv:SlBr w bv t.brs) (hf:FewBr t.brs) (hrl:t.roots.length≤1000000) (hm:∀ b∈t.brs,b.mark.size≤100) (hom:o.mark.size≤100) (hz:(applyR t o).2=0) (hk:o.kind=4) (ub:Br) (ho:brFind t.brs o.unit=some ub) :
  Calls Tryz.prog 24 #[.agg #[rv,bv],o.agg] w (RetOp (oppO t o,0) w):=by
 have KA:=uZ (fun W (hW:Grew w W)=>refApply t o rv bv W (hr.mono hW) (hv.mono hW) hf hrl hm hom)
 have kF:=fun W (hW:Grew w W)=>refFind19 t.brs o.unit rv bv W (hv.mono hW)
 rw[ho] at kF
 have hres:oppO t o=⟨o.id,o.day,4,o.unit,0,0,0,⟨#[]⟩,ub.mark,0,0,0⟩:=by
  unfold oppO
  rw[ho]
  dsimp only
  rw[if_neg b_37,if_neg b_37,if_pos hk]
 rw[hres]
 obtain⟨Ar,cr,rfl,-⟩:=hr.open_
 obtain⟨Ab,cb,rfl,-⟩:=hv.open_
 generalize applyR t o=RES at KA hz
 obtain⟨RT,n⟩:=RES
 dsimp only at hz
 subst hz
 have HB:=uZ (fun W=>opp_blocks w 35 25 25 (.slice Ar t.roots.length cr) (.slice Ab t.brs.length cb) o W)
 clear hr hv hf hrl hm hom ho hres
 obtain⟨i,d,k,u,p,b,l,tt,m,x9,x10,x11⟩:=o
 dsimp only at hk
 subst hk
 unfold TFindEnd at kF
 unfold Opn.agg at KA ⊢
 dsimp only [Option.getD_some,Option.getD_none,Option.isSome_some,Option.isSome_none,br0] at KA kF ⊢
 have KF:=uZ kF
 clear kF
 go_enter Tryz.func24,Tryz.ntmps24
 exact c_13
set_option maxHeartbeats 16000000 in
set_option maxRecDepth 100000 in
theorem refOpp2 (t:Tr) (o:Opn) (rv bv:Value) (w:World) (hr:SlI w rv t.roots) (hv:SlBr w bv t.brs) (hf:FewBr t.brs) (hrl:t.roots.length≤1000000) (hm:∀ b∈t.brs,b.mark.size≤100) (hom:o.mark.size≤100) (hz:(applyR t o).2=0) (hk:o.kind=2) (ub:Br) (ho:brFind t.brs o.unit=some ub) :
  Calls Tryz.prog 24 #[.agg #[rv,bv],o.agg] w (RetOp (oppO t o,0) w):=by
 have KA:=uZ (fun W (hW:Grew w W)=>refApply t o rv bv W (hr.mono hW) (hv.mono hW) hf hrl hm hom)
 have kF:=fun W (hW:Grew w W)=>refFind19 t.brs o.unit rv bv W (hv.mono hW)
 rw[ho] at kF
 have hub:=find_in ho
 have kB:=fun W (hW:Grew w W)=>(show Calls Tryz.prog 63 #[.agg #[rv,bv],unitV ub] W (fun e w'=>e=.returned (.int .i64 (behindF ub.id (childs t ub.parent)))∧Grew W w') from refBehind t ub.id ub.parent ub.level ub.title ub.mark rv bv W (hr.mono hW) (hv.mono hW) hf hrl)
 rw[hub.2] at kB
 have hres:oppO t o=⟨o.id,o.day,2,o.unit,ub.parent,behindF o.unit (childs t ub.parent),0,⟨#[]⟩,⟨#[]⟩,0,0,0⟩:=by
  unfold oppO
  rw[ho]
  dsimp only
  rw[if_pos hk]
 rw[hres]
 obtain⟨Ar,cr,rfl,-⟩:=hr.open_
 obtain⟨Ab,cb,rfl,-⟩:=hv.open_
 generalize applyR t o=RES at KA hz
 obtain⟨RT,n⟩:=RES
 dsimp only at hz
 subst hz
 generalize behindF o.unit (childs t ub.parent)=bh at kB ⊢
 have HB:=uZ (fun W=>opp_blocks w 35 25 25 (.slice Ar t.roots.length cr) (.slice Ab t.brs.length cb) o W)
 clear hr hv hf hrl hm hom ho hres hub
 obtain⟨i,d,k,u,p,b,l,tt,m,x9,x10,x11⟩:=o
 dsimp only at hk
 subst hk
 unfold TFindEnd at kF
 unfold unitV at kB
 unfold Opn.agg at KA ⊢
 dsimp only [Option.getD_some,Option.getD_none,Option.isSome_some,Option.isSome_none,br0] at KA kF kB ⊢
 have KF:=uZ kF
 clear kF
 have KBh:=uZ kB
 clear kB
 go_enter Tryz.func24,Tryz.ntmps24
 exact c_4
set_option maxHeartbeats 16000000 in
set_option maxRecDepth 100000 in
theorem refOpp5 (t:Tr) (o:Opn) (rv bv:Value) (w:World) (hr:SlI w rv t.roots) (hv:SlBr w bv t.brs) (hf:FewBr t.brs) (hrl:t.roots.length≤1000000) (hm:∀ b∈t.brs,b.mark.size≤100) (hom:o.mark.size≤100) (hz:(applyR t o).2=0) (hk:o.kind=5) (ub:Br) (ho:brFind t.brs o.unit=some ub) :
  Calls Tryz.prog 24 #[.agg #[rv,bv],o.agg] w (RetOp (oppO t o,0) w):=by
 have KA:=uZ (fun W (hW:Grew w W)=>refApply t o rv bv W (hr.mono hW) (hv.mono hW) hf hrl hm hom)
 have kF:=fun W (hW:Grew w W)=>refFind19 t.brs o.unit rv bv W (hv.mono hW)
 rw[ho] at kF
 have hub:=find_in ho
 have kB:=fun W (hW:Grew w W)=>(show Calls Tryz.prog 63 #[.agg #[rv,bv],unitV ub] W (fun e w'=>e=.returned (.int .i64 (behindF ub.id (childs t ub.parent)))∧Grew W w') from refBehind t ub.id ub.parent ub.level ub.title ub.mark rv bv W (hr.mono hW) (hv.mono hW) hf hrl)
 rw[hub.2] at kB
 have hres:oppO t o=⟨o.id,o.day,1,o.unit,ub.parent,behindF o.unit (childs t ub.parent),ub.level,ub.title,ub.mark,0,0,0⟩:=by
  unfold oppO
  rw[ho]
  dsimp only
  rw[if_neg b_37,if_neg b_37,if_neg b_37]
 rw[hres]
 obtain⟨Ar,cr,rfl,-⟩:=hr.open_
 obtain⟨Ab,cb,rfl,-⟩:=hv.open_
 generalize applyR t o=RES at KA hz
 obtain⟨RT,n⟩:=RES
 dsimp only at hz
 subst hz
 generalize behindF o.unit (childs t ub.parent)=bh at kB ⊢
 have HB:=uZ (fun W=>opp_blocks w 35 25 25 (.slice Ar t.roots.length cr) (.slice Ab t.brs.length cb) o W)
 clear hr hv hf hrl hm hom ho hres hub
 obtain⟨i,d,k,u,p,b,l,tt,m,x9,x10,x11⟩:=o
 dsimp only at hk
 subst hk
 unfold TFindEnd at kF
 unfold unitV at kB
 unfold Opn.agg at KA ⊢
 dsimp only [Option.getD_some,Option.getD_none,Option.isSome_some,Option.isSome_none,br0] at KA kF kB ⊢
 have KF:=uZ kF
 clear kF
 have KBh:=uZ kB
 clear kB
 go_enter Tryz.func24,Tryz.ntmps24
 go_wp2_with fail
 refine(KA.out _ b_29).mono ?_
 rintro e w1 ⟨rv1,bv1,rfl,ht1,g1⟩
 obtain⟨A1,k1,rfl,-⟩:=SlI.open_ ht1.1
 obtain⟨A2,k2,rfl,-⟩:=ht1.2.open_
 obtain⟨⟨y0,y1⟩,⟨a0,a1,a2,a3,a4,a5,a6,a7,a8,a9,a10,a11⟩,⟨_,_,_,_,_,_,_,_,_,_,_,_⟩,_⟩:=HB.out (w1.alloc (.cells #[.slice A1 RT.roots.length k1,.slice A2 RT.brs.length k2] 35)) (g1.alloc _)
 have HG1:=uZ (show Grew w (w1.alloc (.cells #[.slice A1 RT.roots.length k1,.slice A2 RT.brs.length k2] 35)) from((((uX w).alloc _).alloc _).alloc _ |>.trans g1).alloc _)
 have HG3:=uZ (g1.alloc (.cells #[.slice A1 RT.roots.length k1,.slice A2 RT.brs.length k2] 35))
 clear g1 ht1
 dsimp only
 go_wp2_with fail
 refine(KF.out _ HG1.out).mono ?_
 rintro e w2 ⟨rfl,g2⟩
 replace HG3:=uZ (HG3.out.trans g2)
 replace HG1:=uZ (HG1.out.trans g2)
 clear g2 y0 y1 a0 a1 a2 a3 a4 a5 a6 a7 a8 a9 a10 a11
 obtain⟨⟨_,_⟩,⟨a0,a1,a2,a3,a4,a5,a6,a7,a8,a9,a10,a11⟩,⟨_,_,_,_,_,_,_,_,_,_,_,_⟩,_⟩:=HB.out (w2.alloc (.cells #[.int .i64 ub.id,.int .i64 ub.parent,.int .i64 ub.level,.string ub.title,.string ub.mark] 51)) (HG3.out.alloc _)
 have c2:=(HB.out ((w2.alloc (.cells #[.int .i64 ub.id,.int .i64 ub.parent,.int .i64 ub.level,.string ub.title,.string ub.mark] 51)).alloc (.cells #[.int .i64 i,.int .i64 d,.int .i64 5,.int .i64 u,.int .i64 0,.int .i64 0,.int .i64 0,.string ⟨#[]⟩,.string ⟨#[]⟩,.int .i64 0,.int .i64 0,.int .i64 0] 25)) ((HG3.out.alloc _).alloc _)).2.1.2.2.1
 dsimp only
 have HG4:=uZ (show Grew w ((w2.alloc (.cells #[.int .i64 ub.id,.int .i64 ub.parent,.int .i64 ub.level,.string ub.title,.string ub.mark] 51)).alloc (.cells #[.int .i64 i,.int .i64 d,.int .i64 1,.int .i64 u,.int .i64 0,.int .i64 0,.int .i64 0,.string ⟨#[]⟩,.string ⟨#[]⟩,.int .i64 0,.int .i64 0,.int .i64 0] 25)).drew from((HG1.out.alloc _).alloc _).drew)
 have HG5:=uZ ((((HG3.out.alloc (.cells #[.int .i64 ub.id,.int .i64 ub.parent,.int .i64 ub.level,.string ub.title,.string ub.mark] 51)).alloc (.cells #[.int .i64 i,.int .i64 d,.int .i64 1,.int .i64 u,.int .i64 0,.int .i64 0,.int .i64 0,.string ⟨#[]⟩,.string ⟨#[]⟩,.int .i64 0,.int .i64 0,.int .i64 0] 25))).drew)
 obtain⟨y0,y1⟩:=(HB.out ((w2.alloc (.cells #[.int .i64 ub.id,.int .i64 ub.parent,.int .i64 ub.level,.string ub.title,.string ub.mark] 51)).alloc (.cells #[.int .i64 i,.int .i64 d,.int .i64 1,.int .i64 u,.int .i64 0,.int .i64 0,.int .i64 0,.string ⟨#[]⟩,.string ⟨#[]⟩,.int .i64 0,.int .i64 0,.int .i64 0] 25)) ((HG3.out.alloc _).alloc _)).1
 have he:=fun j v (hj:([.int .i64 ub.id,.int .i64 ub.parent,.int .i64 ub.level,.string ub.title,.string ub.mark]:List Value)[j]? = some v)=>yQ (w:=w2) (t:=51) (show Grew _ ((w2.alloc (.cells #[.int .i64 ub.id,.int .i64 ub.parent,.int .i64 ub.level,.string ub.title,.string ub.mark] 51)).alloc (.cells #[.int .i64 i,.int .i64 d,.int .i64 1,.int .i64 u,.int .i64 0,.int .i64 0,.int .i64 0,.string ⟨#[]⟩,.string ⟨#[]⟩,.int .i64 0,.int .i64 0,.int .i64 0] 25)) from(uX _).alloc _) j v hj
 obtain⟨e0,e1,e2,e3,e4⟩:=(⟨he 0 _ rfl,he 1 _ rfl,he 2 _ rfl,he 3 _ rfl,he 4 _ rfl⟩:_∧_∧_∧_∧_)
 clear he
 have HX:=uZ (fun W (g:Grew ((w2.alloc (.cells #[.int .i64 ub.id,.int .i64 ub.parent,.int .i64 ub.level,.string ub.title,.string ub.mark] 51)).alloc (.cells #[.int .i64 i,.int .i64 d,.int .i64 1,.int .i64 u,.int .i64 0,.int .i64 0,.int .i64 0,.string ⟨#[]⟩,.string ⟨#[]⟩,.int .i64 0,.int .i64 0,.int .i64 0] 25)).drew W)=>(show(W.cell? ⟨w2.heap.size+1,0,none⟩=some (.int .i64 i)∧W.cell? ⟨w2.heap.size+1,1,none⟩=some (.int .i64 d)∧W.cell? ⟨w2.heap.size+1,2,none⟩=some (.int .i64 1)∧W.cell? ⟨w2.heap.size+1,3,none⟩=some (.int .i64 u)∧W.cell? ⟨w2.heap.size+1,4,none⟩=some (.int .i64 0)∧W.cell? ⟨w2.heap.size+1,5,none⟩=some (.int .i64 0)∧W.cell? ⟨w2.heap.size+1,6,none⟩=some (.int .i64 0)∧W.cell? ⟨w2.heap.size+1,7,none⟩=some (.string ⟨#[]⟩)∧W.cell? ⟨w2.heap.size+1,8,none⟩=some (.string ⟨#[]⟩)∧W.cell? ⟨w2.heap.size+1,9,none⟩=some (.int .i64 0)∧W.cell? ⟨w2.heap.size+1,10,none⟩=some (.int .i64 0)∧W.cell? ⟨w2.heap.size+1,11,none⟩=some (.int .i64 0))∧(∀ j,W.frozen? ⟨w2.heap.size+1,j,none⟩=false) from by
  have hx:=fun j v hj=>yQ (w:=(w2.alloc (.cells #[.int .i64 ub.id,.int .i64 ub.parent,.int .i64 ub.level,.string ub.title,.string ub.mark] 51))) (cs:=[.int .i64 i,.int .i64 d,.int .i64 1,.int .i64 u,.int .i64 0,.int .i64 0,.int .i64 0,.string ⟨#[]⟩,.string ⟨#[]⟩,.int .i64 0,.int .i64 0,.int .i64 0]) (t:=25) ((uX _).drew.trans g) j v hj
  have hz:=fun j=>new_frz (w:=(w2.alloc (.cells #[.int .i64 ub.id,.int .i64 ub.parent,.int .i64 ub.level,.string ub.title,.string ub.mark] 51))) (cs:=[.int .i64 i,.int .i64 d,.int .i64 1,.int .i64 u,.int .i64 0,.int .i64 0,.int .i64 0,.string ⟨#[]⟩,.string ⟨#[]⟩,.int .i64 0,.int .i64 0,.int .i64 0]) (t:=25) ((uX _).drew.trans g) j
  rw[size_allocB] at hx hz
  exact⟨⟨hx 0 _ rfl,hx 1 _ rfl,hx 2 _ rfl,hx 3 _ rfl,hx 4 _ rfl,hx 5 _ rfl,hx 6 _ rfl,hx 7 _ rfl,hx 8 _ rfl,hx 9 _ rfl,hx 10 _ rfl,hx 11 _ rfl⟩,hz⟩))
 go_wp2_with fail
 have HS0:=uZ (⟨y0,y1,e0,e1,e2,e3,e4⟩:_∧_∧_∧_∧_∧_∧_)
 have HT9:RowKit.Hid (w.heap.size≠w2.heap.size+1):=by
  have:=HG1.out.size
  show w.heap.size≠w2.heap.size+1
  omega
 have HU9:RowKit.Hid (w2.heap.size≠w2.heap.size+1):=by
  show w2.heap.size≠w2.heap.size+1
  omega
 clear y0 y1 e0 e1 e2 e3 e4
 go_region_held3 (fun W=>W.cell? ⟨w.heap.size,0,none⟩=some (.slice Ar t.roots.length cr)∧W.cell? ⟨w.heap.size,1,none⟩=some (.slice Ab t.brs.length cb)∧W.cell? ⟨w2.heap.size,0,none⟩=some (.int .i64 ub.id)∧W.cell? ⟨w2.heap.size,1,none⟩=some (.int .i64 ub.parent)∧W.cell? ⟨w2.heap.size,2,none⟩=some (.int .i64 ub.level)∧W.cell? ⟨w2.heap.size,3,none⟩=some (.string ub.title)∧W.cell? ⟨w2.heap.size,4,none⟩=some (.string ub.mark)) (first|((repeat (refine opp_keep HT9.out HU9.out ?_));exact HS0.out)|((repeat (refine opp_keep HT9.out HU9.out ?_));exact opp_grow HS0.out (by repeat (first|exact HGB.out|exact uX _|refine uJ ?_)))) (((first|go_at_call 61|go_at_call 63);refine(KBh.out _ HG4.out).mono ?_;rintro e wb ⟨rfl,gb⟩;obtain⟨⟨x0c,x1c,x2c,x3c,x4c,x5c,x6c,x7c,x8c,x9c,x10c,x11c⟩,zx⟩:=HX.out wb gb;have zx0:=zx 0;have zx1:=zx 1;have zx2:=zx 2;have zx3:=zx 3;have zx4:=zx 4;have zx5:=zx 5;have zx6:=zx 6;have zx7:=zx 7;have zx8:=zx 8;have zx9:=zx 9;have zx10:=zx 10;have zx11:=zx 11;have HGB:=uZ (show Grew ((w2.alloc (.cells #[.int .i64 ub.id,.int .i64 ub.parent,.int .i64 ub.level,.string ub.title,.string ub.mark] 51)).alloc (.cells #[.int .i64 i,.int .i64 d,.int .i64 1,.int .i64 u,.int .i64 0,.int .i64 0,.int .i64 0,.string ⟨#[]⟩,.string ⟨#[]⟩,.int .i64 0,.int .i64 0,.int .i64 0] 25)) wb from(uX _).drew.trans gb);clear gb zx;dsimp only))
 have HGF:=uZ (show Grew (((w.alloc (.cells #[.slice Ar t.roots.length cr,.slice Ab t.brs.length cb] 35)).alloc (.cells (⟨i,d,5,u,p,b,l,tt,m,x9,x10,x11⟩:Opn).cells.toArray 25)).alloc (.cells opn0.cells.toArray 25)) (((((wb.setCell ⟨w2.heap.size+1,4,none⟩ (.int .i64 ub.parent)).setCell ⟨w2.heap.size+1,5,none⟩ (.int .i64 bh)).setCell ⟨w2.heap.size+1,6,none⟩ (.int .i64 ub.level)).setCell ⟨w2.heap.size+1,7,none⟩ (.string ub.title)).setCell ⟨w2.heap.size+1,8,none⟩ (.string ub.mark)) from((((((((HG3.out.alloc _).alloc _).trans HGB.out).setCell b_23 _).setCell b_23 _).setCell b_23 _).setCell b_23 _).setCell b_23 _))
 have HGW:=uZ (show Grew w (((((wb.setCell ⟨w2.heap.size+1,4,none⟩ (.int .i64 ub.parent)).setCell ⟨w2.heap.size+1,5,none⟩ (.int .i64 bh)).setCell ⟨w2.heap.size+1,6,none⟩ (.int .i64 ub.level)).setCell ⟨w2.heap.size+1,7,none⟩ (.string ub.title)).setCell ⟨w2.heap.size+1,8,none⟩ (.string ub.mark)) from((((uX w).alloc _).alloc _).alloc _).trans HGF.out)
 obtain⟨_,_,⟨r0,r1,r2,r3,r4,r5,r6,r7,r8,r9,r10,r11⟩,z⟩:=HB.out _ HGF.out
 have z0:=z 0
 have z1:=z 1
 have z2:=z 2
 have z3:=z 3
 have z4:=z 4
 have z5:=z 5
 have z6:=z 6
 have z7:=z 7
 have z8:=z 8
 have z9:=z 9
 have z10:=z 10
 have z11:=z 11
 clear z
 obtain⟨WG,hWG⟩:∃ W,W=(((((wb.setCell ⟨w2.heap.size+1,4,none⟩ (.int .i64 ub.parent)).setCell ⟨w2.heap.size+1,5,none⟩ (.int .i64 bh)).setCell ⟨w2.heap.size+1,6,none⟩ (.int .i64 ub.level)).setCell ⟨w2.heap.size+1,7,none⟩ (.string ub.title)).setCell ⟨w2.heap.size+1,8,none⟩ (.string ub.mark)):=⟨_,rfl⟩
 have y0c:WG.cell? ⟨w2.heap.size+1,0,none⟩=some (.int .i64 i):=by rw[hWG];go_simp
 have y1c:WG.cell? ⟨w2.heap.size+1,1,none⟩=some (.int .i64 d):=by rw[hWG];go_simp
 have y2c:WG.cell? ⟨w2.heap.size+1,2,none⟩=some (.int .i64 1):=by rw[hWG];go_simp
 have y3c:WG.cell? ⟨w2.heap.size+1,3,none⟩=some (.int .i64 u):=by rw[hWG];go_simp
 have y4c:WG.cell? ⟨w2.heap.size+1,4,none⟩=some (.int .i64 ub.parent):=by rw[hWG];go_simp
 have y5c:WG.cell? ⟨w2.heap.size+1,5,none⟩=some (.int .i64 bh):=by rw[hWG];go_simp
 have y6c:WG.cell? ⟨w2.heap.size+1,6,none⟩=some (.int .i64 ub.level):=by rw[hWG];go_simp
 have y7c:WG.cell? ⟨w2.heap.size+1,7,none⟩=some (.string ub.title):=by rw[hWG];go_simp
 have y8c:WG.cell? ⟨w2.heap.size+1,8,none⟩=some (.string ub.mark):=by rw[hWG];go_simp
 have y9c:WG.cell? ⟨w2.heap.size+1,9,none⟩=some (.int .i64 0):=by rw[hWG];go_simp
 have y10c:WG.cell? ⟨w2.heap.size+1,10,none⟩=some (.int .i64 0):=by rw[hWG];go_simp
 have y11c:WG.cell? ⟨w2.heap.size+1,11,none⟩=some (.int .i64 0):=by rw[hWG];go_simp
 rw[hWG] at y0c y1c y2c y3c y4c y5c y6c y7c y8c y9c y10c y11c
 clear hWG WG
 generalize (((((wb.setCell ⟨w2.heap.size+1,4,none⟩ (.int .i64 ub.parent)).setCell ⟨w2.heap.size+1,5,none⟩ (.int .i64 bh)).setCell ⟨w2.heap.size+1,6,none⟩ (.int .i64 ub.level)).setCell ⟨w2.heap.size+1,7,none⟩ (.string ub.title)).setCell ⟨w2.heap.size+1,8,none⟩ (.string ub.mark))=WF at HGF HGW r0 r1 r2 r3 r4 r5 r6 r7 r8 r9 r10 r11 z0 z1 z2 z3 z4 z5 z6 z7 z8 z9 z10 z11 y0c y1c y2c y3c y4c y5c y6c y7c y8c y9c y10c y11c ⊢
 exact c_32
theorem refOpposite (t:Tr) (o:Opn) (rv bv:Value) (w:World) (hr:SlI w rv t.roots) (hv:SlBr w bv t.brs) (hf:FewBr t.brs) (hrl:t.roots.length≤1000000) (hm:∀ b∈t.brs,b.mark.size≤100) (hom:o.mark.size≤100) :
  Calls Tryz.prog 24 #[.agg #[rv,bv],o.agg] w (RetOp (oppR t o) w):=by
 unfold oppR
 by_cases hz:(applyR t o).2=0
 ·rw[if_pos hz]
  obtain⟨-,hk,h1,h2⟩:=opp_ok hz
  rcases hk with hk|hk|hk|hk|hk
  ·exact refOpp1 t o rv bv w hr hv hf hrl hm hom hz hk (h1 hk)
  all_goals obtain⟨ub,ho⟩:=h2 b_37
  ·exact refOpp2 t o rv bv w hr hv hf hrl hm hom hz hk ub ho
  ·exact refOpp3 t o rv bv w hr hv hf hrl hm hom hz hk ub ho
  ·exact refOpp4 t o rv bv w hr hv hf hrl hm hom hz hk ub ho
  ·exact refOpp5 t o rv bv w hr hv hf hrl hm hom hz hk ub ho
 ·rw[if_neg hz]
  exact refOppNo t o rv bv w hr hv hf hrl hm hom hz
end Go.Proofs.YtafncfomiolmgaaGreatDoor
namespace Go.Proofs.YtafncfomiolmgaaGreatDoor
open Go.ChangeShapes Go.WideShapes Go.ChangeAt Go.RowKit
theorem own:ownKnob Tryz.prog.godebug=none:=by kernel_rfl
theorem laidOut:laidOutB Tryz.prog=true:=by kernel_rfl
theorem trodAll_stays {H:Type} {enc:TypeId × Value→H} {P:Program} (hl:laidOutB P=true) {W W':World} (hb:Below W.heap.size W W'):∀ {ts:List TypeId} {vs:List Value} {ds:List (DataW H)} {ps:List MemPlace},
  (ts.all fun t=>P.readableRec t && decide (t<P.types.size))=true→DataW.TrodAll enc P W 0 (fun _=>true) true ts vs ds ps→(∀ x∈ps,x.block<W.heap.size)→DataW.TrodAll enc P W' 0 (fun b=>decide (b<W.heap.size)) true ts vs ds ps
 | [],_,_,_,_,h,_=>by
  obtain⟨rfl,rfl,rfl⟩:=trodAll_nil h
  exact trodAll_mk0
 | t::ts,_,_,_,hr,h,hlt=>by
  obtain⟨v,vs,d,ds,p,q,rfl,rfl,rfl,h1,h2⟩:=trodAll_cons h
  simp only [List.all_cons,Bool.and_eq_true,decide_eq_true_eq] at hr
  exact trodAll_cons_mk (Below.trod hl hr.1.1 hr.1.2 h1 hb fun x hx=>hlt x (List.mem_append_left _ hx)) (trodAll_stays hl hb (by simpa using hr.2) h2 fun x hx=>hlt x (List.mem_append_right _ hx))
theorem post_true {H:Type} {enc:TypeId × Value→H} {P:Program} (hl:laidOutB P=true) {f:Func} {s:ChangeSpec} {W W':World} {args:Array Value} {ds gs:List (DataW H)} {before:List MemPlace} {tb:TypeId}
  (hv:s.vars=[]) (hr:f.resultTypes=#[tb]) (hb:P.underlying tb=some .bool) (hp:(f.params.toList.all fun t=>P.readableRec t && decide (t<P.types.size))=true)
  (hW:DataW.Whole enc P f.params.toList s.vars false W args.toList ds gs before) (hfn:s.fn H ds={ results:=[.lit (.bool true)],args:=ds }) (hg:Below W.heap.size W W') :
  s.post enc P f false true false false W args (.bool true) W':=by
 have hlt:=hW.lt
 have hW':=hW
 obtain⟨p,q,hA,hV,rfl,_,_⟩:=hW
 have hV':=hV
 rw[hv] at hV'
 obtain⟨rfl,rfl⟩:=trodVars_none hV'
 simp only [List.append_nil] at hlt hW'
 refine⟨ds,[],p,[],p,[],hW',?_,?_,?_,hg.frame _,fun h=>by cases h⟩
 ·rw[hr,List.append_nil,hfn]
  exact trodAll_mk1 (shut_bool hb true)
 ·rw[List.append_nil,hfn]
  exact trodAll_stays hl hg hp hA hlt
 ·rw[List.append_nil,hfn,hv]
  rfl
noncomputable def base0R (os:Os):World:=World.holding Tryz.prog os ⟨#[],#[],[]⟩
noncomputable def worldLaid (os:Os):World :=
 { base0R os with heap:=((((base0R os).heap.modify 2 fun
   | .cells _ t frozen=>.cells #[.int .u8 0,.int .u8 1,.int .u8 28,.int .u8 2,.int .u8 29,.int .u8 14,.int .u8 24,.int .u8 3,.int .u8 30,.int .u8 22,.int .u8 20,.int .u8 15,.int .u8 25,.int .u8 17,.int .u8 4,.int .u8 8,.int .u8 31,.int .u8 27,.int .u8 13,.int .u8 23,.int .u8 21,.int .u8 19,.int .u8 16,.int .u8 7,.int .u8 26,.int .u8 12,.int .u8 18,.int .u8 6,.int .u8 11,.int .u8 5,.int .u8 10,.int .u8 9] t frozen
   | o=>o).modify 3 fun
   | .cells _ t frozen=>.cells #[.int .u8 0,.int .u8 1,.int .u8 56,.int .u8 2,.int .u8 57,.int .u8 49,.int .u8 28,.int .u8 3,.int .u8 61,.int .u8 58,.int .u8 42,.int .u8 50,.int .u8 38,.int .u8 29,.int .u8 17,.int .u8 4,.int .u8 62,.int .u8 47,.int .u8 59,.int .u8 36,.int .u8 45,.int .u8 43,.int .u8 51,.int .u8 22,.int .u8 53,.int .u8 39,.int .u8 33,.int .u8 30,.int .u8 24,.int .u8 18,.int .u8 12,.int .u8 5,.int .u8 63,.int .u8 55,.int .u8 48,.int .u8 27,.int .u8 60,.int .u8 41,.int .u8 37,.int .u8 16,.int .u8 46,.int .u8 35,.int .u8 44,.int .u8 21,.int .u8 52,.int .u8 32,.int .u8 23,.int .u8 11,.int .u8 54,.int .u8 26,.int .u8 40,.int .u8 15,.int .u8 34,.int .u8 20,.int .u8 31,.int .u8 10,.int .u8 25,.int .u8 14,.int .u8 19,.int .u8 9,.int .u8 13,.int .u8 8,.int .u8 7,.int .u8 6] t frozen
   | o=>o).modify 0 fun
   | .cells _ t frozen=>.cells #[.int .u64 1,.int .u64 10,.int .u64 100,.int .u64 1000,.int .u64 10000,.int .u64 100000,.int .u64 1000000,.int .u64 10000000,.int .u64 100000000,.int .u64 1000000000,.int .u64 10000000000,.int .u64 100000000000,.int .u64 1000000000000,.int .u64 10000000000000,.int .u64 100000000000000,.int .u64 1000000000000000,.int .u64 10000000000000000,.int .u64 100000000000000000,.int .u64 1000000000000000000,.int .u64 10000000000000000000] t frozen
   | o=>o) }
def laidAll:List (String × DataW Unit):=[("math/bits.deBruijn32tab",Rows.laid_math_bits_deBruijn32tab),("math/bits.deBruijn64tab",Rows.laid_math_bits_deBruijn64tab),("internal/strconv.uint64pow10",Rows.laid_internal_strconv_uint64pow10)]
theorem pow_only:(laidAll.filter fun x=>x.1 == "internal/strconv.uint64pow10")=[("internal/strconv.uint64pow10",Lib.tabData .u64 Lib.pow10Tab)]:=by kernel_rfl
theorem env_of {W:World} (h1:laidMetH Tryz.prog laidAll W) (h2:W.ShapedOpen Tryz.prog):Env W:=by
 refine⟨cell_of_shapedOpen_int (g:=1) (t:=3) (zero:=#[.int .i64 0]) h2 (of_decide_eq_true (by kernel_rfl)) (by kernel_rfl) rfl (by kernel_rfl) (by kernel_rfl) Tryz.underlying3,?_⟩
 have h:=h1.filter (fun x=>x.1 == "internal/strconv.uint64pow10")
 rw[pow_only] at h
 have h3:=(laidMetH_iff.1 h).1
 have h4:laidMet Tryz.prog [("internal/strconv.uint64pow10",Lib.tabData .u64 Lib.pow10Tab)] W:=h3
 exact Lib.tabIs_of_head (g:=0) (t:=166) (e:=148) (n:=20) (by kernel_rfl) (by kernel_rfl) Tryz.underlying166 Tryz.underlying148 (by kernel_rfl) (by kernel_rfl) h4
end Go.Proofs.YtafncfomiolmgaaGreatDoor