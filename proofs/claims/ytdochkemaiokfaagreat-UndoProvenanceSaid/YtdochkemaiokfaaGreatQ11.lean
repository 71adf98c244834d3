/- Lemmas on what the functions of the program and of the library compute: Bw4, Up0, Up3, Up4, PlainUb. The conditions stand at each. -/
import Derived.Maps.OwnIn
import Derived.Test.YtdochkemaiokfaaGreatQ10
import Derived.Test.YtdochkemaiokfaaGreatQ4
import Derived.RangeFuncLeaves
import Derived.RangeFuncBox
import Derived.RangeFuncWrites
import Derived.OwnWalkIn
import Derived.TacticsInMore
import Derived.LoopNIn
import Derived.LoopIn
import Derived.Maps.AppendAt
/- tree.Below, walked: a unit and all that are below it, in order, in a row of the call's own. The conditions: the library's own variables hold what they must; the lists are short. -/
namespace Go.Proofs.YtdochkemaiokfaaGreat
open Go.RowKit Go.Shelf
attribute [local go_sem] Oper.semAt_some
theorem tWalk (rv bv:Value) (id:Int) (w:World):Calls Tryz.prog 189 #[.agg #[rv,bv],.int .i64 id] w fun e w'=>e=.returned (.func (.func 221) #[] #[.pointer (some ⟨w.heap.size,0,none⟩),.pointer (some ⟨w.heap.size+1,0,none⟩)])∧(w.alloc (.cells #[rv,bv] 43)).alloc (.cells #[.int .i64 id] 3)=w':=by
 go_enter Tryz.func189,Tryz.ntmps189
 go_wp2
 go_ret
 exact⟨rfl,rfl⟩
theorem kpO_append {W w1:World} {n₀ B:Nat} {t e:TypeId} {size:Nat} {v v':Value} {k m:Nat} {xs ys:List Value} {tmp:Obj} (hv:Boxed W B t v) (hte:t≠e) (hrow:W.ownsRow n₀ e size v k xs) (hown':w1.ownsRow n₀ e size v' m ys) (hgrow:(W.alloc tmp).grownBy w1 v.ownBlock)
  (hloc:v'.ownBlock=v.ownBlock∨v'.ownBlock=some (W.alloc tmp).heap.size):KpO B W (w1.setCell ⟨B,0,none⟩ v'):=by
 have hv1:Boxed w1 B t v:=(hv.alloc tmp).kept hgrow (hv.not_row hte hrow)
 have hsz:W.heap.size+1≤w1.heap.size:=by have:=hgrow.size;simpa using this
 refine⟨by simp;omega,fun j o ho hc hne hr=>?_,fun v'' hv''=>?_⟩
 ·rw[Below.heap_setCell _ _ _ _ hne]
  have hj:=(Array.getElem?_eq_some_iff.1 ho).1
  rw[hgrow.block j (by simp;omega) (fun e=>hr v hv.cell e.symm),Below.heap_alloc _ _ _ hj]
  exact ho
 ·have:v''=v':=by
   have h2:=(hv1.set v').cell
   rw[h2] at hv''
   exact(Option.some.inj hv'').symm
  subst this
  rcases hloc with h|h
  ·exact .inl ⟨v,hv.cell,h.symm⟩
  ·refine .inr fun b hb=>?_
   have h3:=(hown'.lt b hb).2
   rw[h] at hb
   injection hb with hb
   simp at hb h3 ⊢
   omega
open Classical in
noncomputable def belowR (t:Tr) (id:Int):List Int × Int:=if RightT t then(if topR t.brs id=0 then(belowT t id,0) else([],topR t.brs id)) else([],1)
def RetMine (r:List Int × Int) (w:World) (e:Ending) (w':World):Prop:=∃ v,e=.returned (.tuple #[v,.int .i64 r.2])∧w'.ownsRow w.heap.size 3 1 v r.1.length (r.1.flatMap oneI)∧Grew w w'
theorem RetMine.is_ {r:List Int × Int} {w:World} {e:Ending} {w':World} (h:RetMine r w e w'):RetIs r w e w':=by
 obtain⟨v,h1,h2,h3⟩:=h
 exact⟨v,h1,Rd.of_own h2,h3⟩
theorem walkStops (rs:List Int) (l:List Br) (rv bv:Value) (w0:World) (hr:SlI w0 rv rs) (hv:SlBr w0 bv l) (hf:l.length≤1000000) (hT:RightT ⟨rs,l⟩) (id:Int) (hid:id=0∨∃ b,brFind l id=some b) (B Tb Ib n:Nat) (w:World) (hO:OutIn B w) (hTb:∃ t,Prot B w Tb (.cells #[rv,bv] t (0,0))) (hIb:w.cell? ⟨Ib,0,none⟩=some (.int .i64 id)) (hG:Grew w0 w) :
  SeqStopsK Fence.wide n Tryz.prog 221 #[.pointer (some ⟨Tb,0,none⟩),.pointer (some ⟨Ib,0,none⟩)] (fun x:Int × Int=>#[Value.int .i64 x.1,Value.int .i64 x.2]) (KpB w0.heap.size B) (fun ys=>ys.map Prod.fst=belowT ⟨rs,l⟩ id) (fun pre=>pre.map Prod.fst <+: belowT ⟨rs,l⟩ id) (belowT ⟨rs,l⟩ id).length w :=
 fun lp J Jx W hW hJa _ hY h0=>by
  have hgw:Grew w W:=hW
  refine callsIn_wide.2 ?_
  exact tWalk1 rs l rv bv w0 hr hv hf hT B lp W.heap.size Tb (W.heap.size+1) (belowT ⟨rs,l⟩ id).length J Jx (fun s A A' hj hg=>hJa s A A' none hj (grown_grew hg none) (fun r e=>by cases e))
   (fun m pre x W1 hj hlt=>yieldFree rfl m (hY pre x W1 hj hlt)) Ib id hid (Nat.le_refl _) W (hTb.imp fun t p=>p.kp (KpO.grew hO.1 hgw)) (keep_cell hgw hIb) (hO.kp (KpO.grew hO.1 hgw)) (hG.trans hgw) h0 rfl rfl
set_option maxHeartbeats 4000000 in
theorem tBelowNo (rs:List Int) (l:List Br) (id:Int) (rv bv:Value) (w:World) (hE:Env w) (hr:SlI w rv rs) (hv:SlBr w bv l) (hf:FewBr l) (hrl:rs.length≤1000000) (hno:RightT ⟨rs,l⟩→topR l id≠0) :
  Calls Tryz.prog 136 #[.agg #[rv,bv],.int .i64 id] w (RetMine (belowR ⟨rs,l⟩ id) w):=by
 have hO:=fun W (hW:Grew w W) n hn=>tOrTop rs l id rv bv W (hE.mono hW) (hr.mono hW) (hv.mono hW) hf hrl n hn
 obtain⟨n,hz,hn,hres⟩:∃ n:Int,n≠0∧((¬ RightT ⟨rs,l⟩→n=1)∧(RightT ⟨rs,l⟩→n=topR l id))∧belowR ⟨rs,l⟩ id=([],n):=by
  by_cases hT:RightT ⟨rs,l⟩
  ·refine⟨topR l id,hno hT,⟨fun h=>absurd hT h,fun _=>rfl⟩,?_⟩
   unfold belowR
   rw[if_pos hT]
   show(if topR l id=0 then(belowT ⟨rs,l⟩ id,(0:Int)) else([],topR l id))=_
   rw[if_neg (hno hT)]
  ·refine⟨1,by decide,⟨fun _=>rfl,fun h=>absurd h hT⟩,?_⟩
   unfold belowR
   rw[if_neg hT]
 have KO:=Lib.hid (fun W hW=>hO W hW n hn)
 rw[hres]
 have hz':(n != 0)=true:=by simpa using hz
 clear hE hr hv hf hrl hO hn hz hres hno
 go_enter Tryz.func136,Tryz.ntmps136
 go_wp2_with fail
 refine(KO.out _ ((Grew.refl w).alloc _)).mono ?_
 rintro e w1 ⟨rfl,g1⟩
 dsimp only
 go_wp2
 go_ret2
 exact⟨_,rfl,World.ownsRow_nil _ _ _ _,((Grew.refl w).alloc _).trans g1⟩
set_option maxRecDepth 100000 in
set_option maxHeartbeats 4000000 in
theorem tBelow (rs:List Int) (l:List Br) (id:Int) (rv bv:Value) (w:World) (hE:Env w) (hr:SlI w rv rs) (hv:SlBr w bv l) (hf:FewBr l) (hrl:rs.length≤1000000) (hlen:RightT ⟨rs,l⟩→(belowT ⟨rs,l⟩ id).length≤1000000) :
  Calls Tryz.prog 136 #[.agg #[rv,bv],.int .i64 id] w (RetMine (belowR ⟨rs,l⟩ id) w):=by
 have hO:=fun W (hW:Grew w W) n hn=>tOrTop rs l id rv bv W (hE.mono hW) (hr.mono hW) (hv.mono hW) hf hrl n hn
 by_cases hT:RightT ⟨rs,l⟩
 case neg=>exact tBelowNo rs l id rv bv w hE hr hv hf hrl (fun h=>absurd h hT)
 have hn:(¬ RightT ⟨rs,l⟩→topR l id=1)∧(RightT ⟨rs,l⟩→topR l id=topR l id):=⟨fun h=>absurd hT h,fun _=>rfl⟩
 have KO:=Lib.hid (fun W hW=>hO W hW _ hn)
 by_cases hz:topR l id=0
 case neg=>exact tBelowNo rs l id rv bv w hE hr hv hf hrl (fun _=>hz)
 have hres:belowR ⟨rs,l⟩ id=(belowT ⟨rs,l⟩ id,0):=by
  unfold belowR
  rw[if_pos hT,if_pos hz]
 have hstop:=fun B Tb Ib n w'=>walkStops rs l rv bv w hr hv hf.1 hT id (top_found hz) B Tb Ib n w'
 have hlen':=hlen hT
 rw[hres]
 rw[hz] at KO
 generalize belowT ⟨rs,l⟩ id=L at hstop hlen' ⊢
 have HS:=Lib.hid hstop
 have HLEN:=Lib.hid hlen'
 obtain⟨i0,hi,hz0,hz1,hz2⟩:=info_parts cinfoI
 clear hE hr hv hf hrl hO hn hz hres hT hlen hstop hlen'
 refine(callsIn_wide (n:=9)).1 ?_
 refine callsIn_of_wp_marks Tryz.func136 rfl trivial ?_ rfl
 simp only [Tryz.ntmps136,List.size_toArray,List.length_cons,List.length_nil,Nat.reduceAdd,Nat.reduceSub,Array.replicate_succ,Array.replicate_zero,List.push_toArray,List.append_toArray,List.nil_append,List.cons_append]
 gi_wp2_with fail
 refine⟨trivial,(callsIn_wide.2 (KO.out _ ((Grew.refl w).alloc _))).mono ?_⟩
 rintro e w1 ⟨rfl,g1⟩
 have b0:=new_cell g1 0 _ rfl
 have b1:=new_cell g1 1 _ rfl
 have HG1:=Lib.hid (((Grew.refl w).alloc _).trans g1)
 have c0:=keep_cell ((Grew.refl w1).alloc (.cells #[.slice none 0 0] 38)) b0
 have c1:=keep_cell ((Grew.refl w1).alloc (.cells #[.slice none 0 0] 38)) b1
 clear g1 b0 b1
 dsimp only
 gi_wp2_with fail
 refine⟨trivial,(callsIn_wide.2 (tWalk rv bv id _)).mono ?_⟩
 rintro e w2 ⟨rfl,hw2⟩
 dsimp only
 gi_wp2_with fail
 have hOB:OutIn w1.heap.size w2:=by
  rw[← hw2]
  refine⟨by simp;omega,fun v hv b hb=>?_⟩
  rw[World.cell?_alloc_lt _ _ _ (by simp;omega),World.cell?_alloc_lt _ _ _ (by simp)] at hv
  rw[(Boxed.new w1 38 (.slice none 0 0)).cell] at hv
  obtain rfl:=Option.some.inj hv
  simp[Value.ownBlock] at hb
 have hO1:OutIn w1.heap.size (w1.alloc (.cells #[.slice none 0 0] 38)):=⟨by simp,fun v hv b hb=>by
  rw[(Boxed.new w1 38 (.slice none 0 0)).cell] at hv
  obtain rfl:=Option.some.inj hv
  simp[Value.ownBlock] at hb⟩
 have hPT:Prot w1.heap.size w2 (w1.alloc (.cells #[.slice none 0 0] 38)).heap.size (.cells #[rv,bv] 43 (0,0)):=by
  rw[← hw2]
  exact(Prot.new hO1 rfl).kp (KpO.grew (by simp;omega) ((Grew.refl _).alloc _))
 have hCI:w2.cell? ⟨(w1.alloc (.cells #[.slice none 0 0] 38)).heap.size+1,0,none⟩=some (.int .i64 id):=by
  rw[← hw2]
  exact(cell_two _ _ _ _).1
 have hBX:Boxed w2 w1.heap.size 38 (.slice none 0 0):=by
  rw[← hw2]
  exact((Boxed.new w1 _ _).alloc _).alloc _
 have hG2:Grew w w2:=by
  rw[← hw2]
  exact((HG1.out.alloc _).alloc _).alloc _
 have hs12:w1.heap.size<w2.heap.size:=hOB.1
 have hs1:w.heap.size≤w1.heap.size:=HG1.out.size
 have hst:=HS.out w1.heap.size (w1.alloc (.cells #[.slice none 0 0] 38)).heap.size ((w1.alloc (.cells #[.slice none 0 0] 38)).heap.size+1) 8 w2 hOB ⟨_,hPT⟩ hCI hG2
 generalize (w1.alloc (.cells #[.slice none 0 0] 38)).heap.size=Tb at hst ⊢
 have hlen:=HLEN.out
 clear hw2 hPT hCI hO1 c0 c1
 refine wpIn_rangeFunc_ownG rfl (by omega) (gf:=221) (lb:=#[.pointer (some ⟨Tb,0,none⟩),.pointer (some ⟨Tb+1,0,none⟩)]) rfl trivial (enters_of Tryz.func221 (by kernel_rfl) rfl)
  hst KpB.trans (kpB_put hG2.size hs12) (Below.refl _ _) (fun _=>rfl)
  (fun pre W=>(∃ v,Boxed W w1.heap.size 38 v∧W.ownsRow w.heap.size 3 1 v pre.length ((pre.map Prod.fst).flatMap oneI)∧(v=.slice none 0 0↔pre=[]))∧Below w.heap.size w W)
  (fun _ _ _=>False)
  (OwnFrom.and (Own.from (holdsRow_own w.heap.size w1.heap.size 38 3 1 (fun pre:List (Int × Int)=>pre.length) (fun pre=>(pre.map Prod.fst).flatMap oneI) (fun pre v=>v=.slice none 0 0↔pre=[])) _) (ownFrom_below (Nat.le_refl _) hG2.size))
  (fun _ _ _ _ _ hs _ _=>hs)
  ⟨⟨_,hBX,World.ownsRow_nil _ _ _ _,by simp⟩,hG2⟩
  (fun x=>{ tmps:=#[.agg #[rv,bv],.int .i64 id,.pointer (some ⟨w.heap.size,0,none⟩),undef,.slice none 0 0,.int .i64 0,.int .i64 0,.pointer (some ⟨w1.heap.size,0,none⟩),.int .i64 x.1,.agg #[rv,bv],.int .i64 id,.int .i64 0,.int .i64 0,.bool false,undef,.agg #[rv,bv],.int .i64 id,.func (.func 221) #[] #[.pointer (some ⟨Tb,0,none⟩),.pointer (some ⟨Tb+1,0,none⟩)],.int .i64 x.1,.int .i64 x.2,undef,undef,undef,undef,undef],defers:=[] }) ?assign ?body ?done ?stop
 case assign =>
  intro l x W K hK
  gi_wp2
  exact hK
 case body =>
  rintro l pre x W ⟨⟨v,hv,hrow,hnil⟩,hB⟩ hlt
  have hc:=hv.cell
  gi_wp2_with (gi_at_builtin;refine wpListIn_append_own_at _ rfl _ _ 38 rfl w.heap.size 3 i0 (.int .i64 0) 1 8 Tryz.underlying38 hi hz0 hz1 hz2 rfl (by decide) _ _ _ rfl (hrow.alloc _) ⟨W.heap.size,0,none⟩ 1 1 [Value.int .i64 x.1] rfl rfl (cell_one_new _ _ _) (by simp[Value.oneCell']) (by unfold maxLen;omega) (by omega) (by have:=hB.size;simp;omega) ?_;intro v' w1' hown' hgrow _ hloc;have hkp:=kpO_append hv (by decide) hrow hown' hgrow hloc;obtain⟨g',cap',rfl⟩:=ownsRow_succ hown';obtain⟨hv1,hv2,hr2,hk2,hb2⟩:=hv.appended (by decide) hrow hB.size hs1 hown' hgrow;have hc1:=hv1.cell;have hf1:=hv1.frozen)
  exact⟨hk2.from _,⟨hb2,hkp⟩,⟨_,hv2,by simpa [oneI] using hr2,by simp⟩,hB.trans hb2⟩
 case done =>
  rintro D ys W hD rfl ⟨⟨v,hv,hrow,hnil⟩,hB⟩ hK
  have hc:=hv.cell
  gi_wp2
  refine⟨by simp,.inl ⟨_,_,rfl,run_takeDeferred hK,?_⟩⟩
  refine⟨_,results_tmp2 rfl _ _ _,v,rfl,?_,hB.trans (belowK_b (w:=w) (Nat.le_refl _) W D _ _ (by omega) hK rfl rfl)⟩
  have:=ownsRow_putObj hrow (.deferred none) hK rfl
  simpa using this
 case stop =>
  rintro D c pre W _ _ h _
  exact h.elim
end Go.Proofs.YtdochkemaiokfaaGreat
/- A range over a function whose iterator writes one box that it captured: the contract and the law. The conditions: the box lies ahead of the loop; the body writes no record of a loop. -/
namespace Go.Proofs.YtdochkemaiokfaaGreat
open Go.RowKit Go.Shelf
structure KpN (n₀:Nat) (W W':World):Prop where
 below:Below n₀ W W'
 cells:∀(k:Nat) (o:Obj),W.heap[k]? = some o→o.isCells=true→W'.heap[k]? = some o
theorem KpN.refl (n₀:Nat) (W:World):KpN n₀ W W:=⟨Below.refl _ _,fun _ _ h _=>h⟩
theorem KpN.trans {n₀:Nat} {A B C:World} (h:KpN n₀ A B) (k:KpN n₀ B C):KpN n₀ A C:=⟨h.below.trans k.below,fun i o ho hc=>k.cells i o (h.cells i o ho hc) hc⟩
theorem KpN.grew {n₀:Nat} {W W':World} (hn:n₀≤W.heap.size) (h:Grew W W'):KpN n₀ W W' :=
 ⟨h.below.mono hn,fun k o ho _=>by rw[h.block k (Array.getElem?_eq_some_iff.1 ho).1];exact ho⟩
theorem KpN.put {n₀:Nat} {W:World} {l:Nat} {L L':Loop} (hl:n₀≤l) (h:W.heap[l]? = some (.loop L)):KpN n₀ W (W.putObj l (.loop L')):=by
 have hg:=grownBy_putObj' W l (.loop L')
 refine⟨(Below.refl n₀ W).grown hg (by have:=(Array.getElem?_eq_some_iff.1 h).1;omega) (fun k e=>by cases e;exact hl),fun k o ho hc=>?_⟩
 rw[hg.block k (Array.getElem?_eq_some_iff.1 ho).1 (fun e=>?_)]
 ·exact ho
 ·cases e
  rw[h] at ho
  cases ho
  cases hc
def TurnsX {β:Type} (X B:Nat) (I:β→World→Prop):Prop:=∀ s W W' row,I s W→W.grownBy W' row→(∀ r,row=some r→r=X∨B≤r)→I s W'
structure RecAt (D:Nat) (L:Loop) (W:World):Prop where
 loop:W.heap[D+1]? = some (.loop L)
 defd:W.heap[D]? = some (.deferred (some []))
theorem RecAt.others {D:Nat} {L:Loop} {W W':World} (h:RecAt D L W) (k:KeepsOthers W W'):RecAt D L W':=⟨k.same _ _ h.loop rfl,k.same _ _ h.defd rfl⟩
theorem RecAt.put {D:Nat} {L:Loop} {W:World} (h:RecAt D L W) (L':Loop):RecAt D L' (W.putObj (D+1) (.loop L')) :=
 ⟨World.putObj_heap_same (Array.getElem?_eq_some_iff.1 h.loop).1,(World.putObj_heap_other (by omega)).trans h.defd⟩
theorem RecAt.grown {D X:Nat} {L:Loop} {W W':World} (h:RecAt D L W) (hX:X<D) (g:W.grownBy W' (some X)):RecAt D L W' :=
 ⟨(g.block _ (Array.getElem?_eq_some_iff.1 h.loop).1 (fun e=>by cases e;omega)).trans h.loop,(g.block _ (Array.getElem?_eq_some_iff.1 h.defd).1 (fun e=>by cases e;omega)).trans h.defd⟩
def recOf (fn:FuncId) (tmps:Array Value) (ps:Array Tmp) (assign body:Code) (D:Nat) (st:LoopState) (pe:Option Code):Loop:={ state:=st,pending:=pe,fn,tmps,params:=ps,assign,body,defers:=D }
theorem TurnsX.put {β:Type} {X B:Nat} {I:β→World→Prop} (h:TurnsX X B I) {s:β} {W:World} {l:Nat} (o:Obj) (hs:I s W) (hl:B≤l):I s (W.putObj l o) :=
 h s W _ (some l) hs (grownBy_putObj' W l o) (fun r e=>by cases e;exact .inr hl)
end Go.Proofs.YtdochkemaiokfaaGreat
/- A range over a function whose iterator writes one box that it captured, with a body that may write any other box: the contract and the law. The conditions: the box lies ahead of the loop; the body leaves that box alone and writes no record of a loop. -/
namespace Go.Proofs.YtdochkemaiokfaaGreat
open Go.RowKit Go.Shelf
def KpX (X:Nat) (W W':World):Prop:=W'.heap[X]? = W.heap[X]?
theorem KpX.refl (X:Nat) (W:World):KpX X W W:=rfl
theorem KpX.trans {X:Nat} {A B C:World} (h:KpX X A B) (k:KpX X B C):KpX X A C:=Eq.trans k h
theorem KpX.put {X:Nat} {W:World} {l:Nat} (o:Obj) (hl:X≠l):KpX X W (W.putObj l o):=World.putObj_heap_other hl
theorem KpX.grew {X:Nat} {W W':World} (hX:X<W.heap.size) (h:Grew W W'):KpX X W W':=h.block X hX
end Go.Proofs.YtdochkemaiokfaaGreat
/- A range over a function whose iterator keeps a map of its own: the contract and the law. The conditions: the body leaves all maps alone, and of what lay ahead of the loop all cells but those of named boxes; it writes no record of a loop. -/
namespace Go.Proofs.YtdochkemaiokfaaGreat
open Go.RowKit Go.Shelf
theorem grownSetN (W:World) (b o:Nat) (v:Value):W.grownBy (W.setCell ⟨b,o,none⟩ v) (some b) :=
 ⟨rfl,rfl,rfl,by simp,fun k _ hne=>Below.heap_setCell _ _ _ _ (fun e=>hne (by rw[e]))⟩
structure KpS (n₀ B:Nat) (X:Nat→Prop) (W W':World):Prop where
 below:Below n₀ W W'
 cells:∀(k:Nat) (o:Obj),k<B→¬ X k→W.heap[k]? = some o→o.isCells=true→W'.heap[k]? = some o
 maps:∀(k:Nat) (es:Array MapEntry) (c:Nat),W.heap[k]? = some (.map es c)→W'.heap[k]? = some (.map es c)
theorem KpS.refl (n₀ B:Nat) (X:Nat→Prop) (W:World):KpS n₀ B X W W:=⟨Below.refl _ _,fun _ _ _ _ h _=>h,fun _ _ _ h=>h⟩
theorem KpS.trans {n₀ B:Nat} {X:Nat→Prop} {W0 W1 W2:World} (h:KpS n₀ B X W0 W1) (k:KpS n₀ B X W1 W2):KpS n₀ B X W0 W2:=⟨h.below.trans k.below,fun i o hi hx ho hc=>k.cells i o hi hx (h.cells i o hi hx ho hc) hc,fun i es c ho=>k.maps i es c (h.maps i es c ho)⟩
theorem KpS.put {n₀ B:Nat} {X:Nat→Prop} {W:World} {l:Nat} {L L':Loop} (hl:n₀≤l) (h:W.heap[l]? = some (.loop L)):KpS n₀ B X W (W.putObj l (.loop L')):=by
 refine⟨(Below.refl n₀ W).grown (grownBy_putObj' W l _) (by have:=(Array.getElem?_eq_some_iff.1 h).1;omega) (fun k e=>by cases e;exact hl),fun k o _ _ ho hc=>?_,fun k es c ho=>?_⟩
 ·rw[World.putObj_heap_other (fun e=>?_)]
  ·exact ho
  ·subst e
   rw[h] at ho
   cases ho
   cases hc
 ·rw[World.putObj_heap_other (fun e=>?_)]
  ·exact ho
  ·subst e
   rw[h] at ho
   cases ho
theorem KpS.grew {n₀ B:Nat} {X:Nat→Prop} {W W':World} (hn:n₀≤W.heap.size) (h:Grew W W'):KpS n₀ B X W W' :=
 ⟨h.below.mono hn,fun k o _ _ ho _=>by rw[h.block k (Array.getElem?_eq_some_iff.1 ho).1];exact ho,fun k es c ho=>by rw[h.block k (Array.getElem?_eq_some_iff.1 ho).1];exact ho⟩
theorem KpS.set {n₀ B:Nat} {X:Nat→Prop} {W:World} {b o:Nat} (v:Value) (hn:n₀≤b) (hb:X b∨B≤b) (hc:∃ cs t fr,W.heap[b]? = some (.cells cs t fr)):KpS n₀ B X W (W.setCell ⟨b,o,none⟩ v):=by
 obtain⟨cs,t,fr,hc⟩:=hc
 refine⟨(Below.refl n₀ W).grown (grownSetN W b o v) (by have:=(Array.getElem?_eq_some_iff.1 hc).1;omega) (fun k e=>by cases e;exact hn),fun k ob hk hx ho _=>?_,fun k es c ho=>?_⟩
 ·rw[Below.heap_setCell _ _ _ _ (fun e=>?_)]
  ·exact ho
  ·subst e
   rcases hb with hb|hb
   ·exact hx hb
   ·exact absurd hb (by show ¬ B≤k;omega)
 ·rw[Below.heap_setCell _ _ _ _ (fun e=>?_)]
  ·exact ho
  ·subst e
   rw[show W.heap[k]? = some (.cells cs t fr) from hc] at ho
   cases ho
def SeqStopsS {α:Type} (F:Fence) (n:Nat) (P:Program) (g:Nat) (lb:Array Value) (encs:α→Array Value) (n₀ B:Nat) (X:Nat→Prop) (S Sp:List α→Prop) (w:World):Prop :=
 ∀(l:Nat) (J Jx:List α→World→Prop) (W:World),Grew w W→(∀ s W1 W2,J s W1→Grew W1 W2→J s W2)→(∀ s W1 W2,Jx s W1→Grew W1 W2→Jx s W2) →
  (∀ pre x W1,J pre W1→Sp (pre++[x])→YieldAt F (n-1) P l (encs x) W1 fun e W' =>
   (e=.returned (.bool true)∧J (pre++[x]) W'∧KpS n₀ B X W1 W')∨(e=.returned (.bool false)∧Jx (pre++[x]) W')) →
  J [] W →
  CallsIn F n P g (#[.func (.yield l) #[] #[]]++lb) W fun e W'=>(∃ v,e=.returned v)∧((∃ xs,S xs∧J xs W')∨(∃ pre,Sp pre∧Jx pre W'))
def TurnsS {β:Type} (B:Nat) (I:β→World→Prop):Prop:=∀ s W W' row,I s W→W.grownBy W' row→(∀ r,row=some r→B≤r∧∀ o,W.heap[r]? = some o→o.isCells=false)→I s W'
theorem RecAt.grew {D:Nat} {L:Loop} {W W':World} (h:RecAt D L W) (g:Grew W W'):RecAt D L W' :=
 ⟨(g.block _ (Array.getElem?_eq_some_iff.1 h.loop).1).trans h.loop,(g.block _ (Array.getElem?_eq_some_iff.1 h.defd).1).trans h.defd⟩
theorem wpIn_rangeS {α:Type} {F:Fence} {n:Nat} {P:Program} {g:Operand} {ps:Array Tmp} {assign body:Code} {Q:Exit→Act→World→Prop} {a:Act} {w:World}
  (hro:F.round=none) (h1:1≤n) {gf:Nat} {lb:Array Value} (hg:a.eval g=.func (.func gf) #[] lb) (hFg:F.fn gf) (eg:∀ args w,(callFunc gf args).run P w=.ok (.enter gf args) w)
  {encs:α→Array Value} {n₀:Nat} {X:Nat→Prop} {S Sp:List α→Prop} (hn:n₀≤w.heap.size) (hseq:SeqStopsS F (n-1) P gf lb encs n₀ w.heap.size X S Sp w) (hps:∀ x,(encs x).size=ps.size)
  (I:List α→World→Prop) (Ix:Code→List α→World→Prop) (hI:TurnsS w.heap.size I) (hIx:∀ c,TurnsS w.heap.size (Ix c)) (h0:I [] w) (Ax:α→Act→World→Prop) (hAx:∀ x a',TurnsS w.heap.size (fun(_:Unit) W=>Ax x a' W))
  (hassign:∀(l:Nat) (x:α) (W:World) (K:Act→World→Prop),w.heap.size≤W.heap.size→(∀ a' W',Grew W W'→Ax x a' W'→K a' W') →
   assign.wpIn (F.inRound l) (n-1-1) P (Exit.then K (fun _ _ _=>False)) { tmps:=(ps.zip (encs x)).foldl (fun t (p,v)=>t.setIfInBounds p v) a.tmps,defers:=[] } W)
  (hbody:∀(l:Nat) (pre:List α) (x:α) (a':Act) (W:World),I pre W→Ax x a' W→Sp (pre++[x])→body.wpIn (F.inRound l) (n-1-1) P (ownPostK (KpS n₀ w.heap.size X) I Ix (pre++[x]) W) a' W)
  (hdone:∀(D:Nat) (xs:List α) (W:World),w.heap.size≤D→S xs→I xs W→W.heap[D]? = some (.deferred (some []))→Q .normal { a with defers:={ target:=.collected D,args:=#[] } :: a.defers } W)
  (hstop:∀(D:Nat) (c:Code) (pre:List α) (W:World),w.heap.size≤D→Sp pre→Ix c pre W→W.heap[D]? = some (.deferred (some []))→c.wpIn F n P Q { a with defers:={ target:=.collected D,args:=#[] } :: a.defers } W) :
  (Code.rangeFunc g ps assign body).wpIn F n P Q a w:=by
 refine wpIn_rangeFunc fun fn hfn=>?_
 rw[hro]
 obtain⟨D,hD⟩:∃ D,D=w.heap.size:=⟨_,rfl⟩
 obtain⟨R,hR⟩:∃ R,R=recOf fn a.tmps ps assign body D:=⟨_,rfl⟩
 obtain⟨W1,hW1⟩:∃ W1,W1=(w.alloc (.deferred (some []))).alloc (.loop (R .ready none)):=⟨_,rfl⟩
 have hg1:Grew w W1:=by rw[hW1];exact((Grew.refl w).alloc _).alloc _
 have hrec:RecAt D (R .ready none) W1:=by
  refine⟨?_,?_⟩
  ·rw[hW1,hD]
   have:=World.alloc_heap_new (w.alloc (.deferred (some []))) (.loop (R .ready none))
   rwa [World.size_alloc] at this
  ·rw[hW1,hD]
   exact(Below.heap_alloc _ _ _ (by simp)).trans (World.alloc_heap_new w _)
 have hI1:I [] W1:=hI [] w W1 none h0 (grown_grew hg1 none) (fun r e=>by cases e)
 rw[← hD] at hn hseq hI hIx hAx hassign hbody hdone hstop
 have pI:∀ {s:List α} {W:World} {L L':Loop},I s W→W.heap[D+1]? = some (.loop L)→I s (W.putObj (D+1) (.loop L')):=fun {s W L L'} h hl=>hI s W _ (some (D+1)) h (grownBy_putObj' W _ _) (fun r e=>by cases e;exact⟨Nat.le_succ D,fun o ho=>by rw[hl] at ho;cases ho;rfl⟩)
 have pX:∀ {c:Code} {s:List α} {W:World} {L L':Loop},Ix c s W→W.heap[D+1]? = some (.loop L)→Ix c s (W.putObj (D+1) (.loop L')):=fun {c s W L L'} h hl=>hIx c s W _ (some (D+1)) h (grownBy_putObj' W _ _) (fun r e=>by cases e;exact⟨Nat.le_succ D,fun o ho=>by rw[hl] at ho;cases ho;rfl⟩)
 refine⟨D+1,[{ target:=.collected D,args:=#[] }],W1,{ target:=.fn (.func gf) lb,args:=#[.func (.yield (D+1)) #[] #[]] },W1,gf,#[.func (.yield (D+1)) #[] #[]]++lb,W1,?_,?_,?_,?_,fun _=>h1,?_⟩
 ·rw[hW1,hR,hD]
  exact run_enterLoop_outer _ _ _ _ _
 ·simp only [resolve,hg]
  simp[go_sem]
 ·intro f' hf'
  simp[Target.leads] at hf'
  subst hf'
  exact hFg
 ·simp[invoke,go_sem,eg]
 ·refine(hseq (D+1) (fun pre W=>I pre W∧RecAt D (R .ready none) W) (fun pre W=>∃ c,Ix c pre W∧RecAt D (R .done (some c)) W) W1 hg1
   (fun s A B h k=>⟨hI s A B none h.1 (grown_grew k none) (fun r e=>by cases e),h.2.grew k⟩)
   (fun s A B h k=>h.imp fun c hc=>⟨hIx c s A B none hc.1 (grown_grew k none) (fun r e=>by cases e),hc.2.grew k⟩) ?_ ⟨hI1,hrec⟩).mono ?_
  ·rintro pre x W ⟨hi,hr⟩ hlen
   have hy:=run_yield (P:=P) (args:=encs x) hr.loop (by rw[hR];exact hps x)
   rw[hR] at hy
   refine⟨fn,_,assign,body,hy,roundIn_of_wpIn hfn (hassign _ x W _ (by have:=(Array.getElem?_eq_some_iff.1 hr.loop).1;omega) ?_)⟩
   intro a' W2 hg2 hax
   have hr1:=hr.grew hg2
   have hi1:I pre W2:=hI pre W W2 none hi (grown_grew hg2 none) (fun r e=>by cases e)
   refine⟨_,run_beginRound hr1.loop (by rw[hR];rfl),?_⟩
   have hr2:=hr1.put (R .busy none)
   have hk2:KpS n₀ D X W (W2.putObj (D+1) (.loop (R .busy none))):=(KpS.grew (by have:=(Array.getElem?_eq_some_iff.1 hr.loop).1;omega) hg2).trans (KpS.put (by omega) hr1.loop)
   have hax2:Ax x a' (W2.putObj (D+1) (.loop (R .busy none))):=hAx x a' () W2 _ (some (D+1)) hax (grownBy_putObj' W2 _ _) (fun r e=>by cases e;exact⟨Nat.le_succ D,fun o ho=>by rw[hr1.loop] at ho;cases ho;rfl⟩)
   have hb:=hbody (D+1) pre x a' _ (pI (L':=R .busy none) hi1 hr1.loop) hax2 hlen
   have he:({ R .ready none with state:=.busy }:Loop)=R .busy none:=by rw[hR];rfl
   rw[he]
   refine wpIn_mono hb ?_
   have fin:∀(jump:Option Code) (W3:World),KeepsOthers (W2.putObj (D+1) (.loop (R .busy none))) W3 →
     (Instr.endRound (D+1) jump).run P W3=.ok (.bool jump.isNone) (W3.putObj (D+1) (.loop (R (if jump.isNone then .ready else .done) jump)))∧RecAt D (R .busy none) W3∧RecAt D (R (if jump.isNone then .ready else .done) jump) (W3.putObj (D+1) (.loop (R (if jump.isNone then .ready else .done) jump))):=fun jump W3 hk=>by
    have hr3:=hr2.others hk
    have:=run_endRound (P:=P) jump hr3.loop
    refine⟨?_,hr3,hr3.put _⟩
    rw[this,hR]
    rfl
   rintro e a3 W3 hp
   cases e with
   | normal =>
    obtain⟨hk3,hkp3,hi3⟩:=hp
    obtain⟨h3,h4,h5⟩:=fin none W3 hk3
    exact⟨_,_,h3,.inl ⟨rfl,⟨pI hi3 h4.loop,h5⟩,(hk2.trans hkp3).trans (KpS.put (by omega) h4.loop)⟩⟩
   | ret =>
    obtain⟨hk3,hi3⟩:=hp
    obtain⟨h3,h4,h5⟩:=fin (some .ret) W3 hk3
    exact⟨_,_,h3,.inr ⟨rfl,_,pX hi3 h4.loop,h5⟩⟩
   | exit id =>
    obtain⟨hk3,hi3⟩:=hp
    obtain⟨h3,h4,h5⟩:=fin (some (.exit id)) W3 hk3
    exact⟨_,_,h3,.inr ⟨rfl,_,pX hi3 h4.loop,h5⟩⟩
   | goto t =>
    obtain⟨hk3,hi3⟩:=hp
    obtain⟨h3,h4,h5⟩:=fin (some (.goto t)) W3 hk3
    exact⟨_,_,h3,.inr ⟨rfl,_,pX hi3 h4.loop,h5⟩⟩
   | panic ch=>exact hp.elim
   | outgrown=>exact hp.elim
  ·rintro e W2 ⟨⟨v,rfl⟩,(⟨xs,hS,hi,hr⟩|⟨pre,hSp,c,hi,hr⟩)⟩
   ·have:=run_endLoop (P:=P) hr.loop (by rw[hR];simp[recOf])
    exact⟨none,_,by rw[this,hR];rfl,hdone D xs _ (by omega) hS (pI hi hr.loop) ((World.putObj_heap_other (by omega)).trans hr.defd)⟩
   ·have:=run_endLoop (P:=P) hr.loop (by rw[hR];simp[recOf])
    exact⟨some c,_,by rw[this,hR];rfl,hstop D c pre _ (by omega) hSp (pX hi hr.loop) ((World.putObj_heap_other (by omega)).trans hr.defd)⟩
end Go.Proofs.YtdochkemaiokfaaGreat
/- How the operations that count change when a log grows, plainly. No condition. -/
namespace Go.Proofs.YtdochkemaiokfaaGreat
open Go.RowKit
theorem undone_snoc (l:List Opn) (o:Opn) (id:Int):undoneF (l++[o]) id=(undoneF l id != (o.kind == 6 && o.unit == id)):=by
 unfold undoneF
 rw[List.countP_append,List.countP_singleton]
 cases h:(o.kind == 6 && o.unit == id)
 ·simp
 ·rw[if_pos rfl]
  rcases Nat.mod_two_eq_zero_or_one (l.countP fun o=>o.kind == 6 && o.unit == id) with k|k
  ·have:(l.countP (fun o=>o.kind == 6 && o.unit == id)+1) % 2=1:=by omega
   rw[this,k];rfl
  ·have:(l.countP (fun o=>o.kind == 6 && o.unit == id)+1) % 2=0:=by omega
   rw[this,k];rfl
theorem counts_snoc (l:List Opn) (o x:Opn):countsB (l++[o]) x=(x.kind != 6 && (undoneF l x.id == (o.kind == 6 && o.unit == x.id))):=by
 unfold countsB
 rw[undone_snoc]
 cases undoneF l x.id<;>cases (o.kind == 6 && o.unit == x.id)<;>rfl
theorem counts_plain {l:List Opn} {o:Opn} (h:o.kind≠6) (x:Opn):countsB (l++[o]) x=countsB l x:=by
 rw[counts_snoc]
 unfold countsB
 have:(o.kind == 6)=false:=by simpa using h
 rw[this]
 cases undoneF l x.id<;>rfl
theorem counts_twice {l:List Opn} {o p:Opn} (h1:o.kind=6) (h2:p.kind=6) (hu:o.unit=p.unit) (x:Opn):countsB (l++[o]++[p]) x=countsB l x:=by
 rw[counts_snoc]
 rw[undone_snoc,hu]
 unfold countsB
 simp only [h1,h2,beq_self_eq_true,Bool.true_and]
 cases undoneF l x.id<;>cases (p.unit == x.id)<;>rfl
def idxL (l:List Opn):List (Int × Opn):=((List.range l.length).map fun(i:Nat)=>(i:Int)).zip l
theorem countI_idx (l:List Opn):countI l=(idxL l).filter fun p=>countsB l p.2:=rfl
theorem idx_snoc (l:List Opn) (o:Opn):idxL (l++[o])=idxL l++[((l.length:Int),o)]:=by
 unfold idxL
 rw[List.length_append,List.length_singleton,List.range_succ,List.map_append,List.zip_append (by simp)]
 rfl
theorem idx_mem {l:List Opn} {p:Int × Opn} (h:p∈idxL l):p.2∈l:=(List.of_mem_zip h).2
theorem countI_plain {l:List Opn} {o:Opn} (h:o.kind≠6) (hn:∀ x∈l,x.kind=6→x.unit≠o.id):countI (l++[o])=countI l++[((l.length:Int),o)]:=by
 rw[countI_idx,countI_idx,idx_snoc,List.filter_append]
 have h0:undoneF l o.id=false:=by
  unfold undoneF
  rw[List.countP_eq_zero.2 (fun x hx=>by
   simp only [Bool.and_eq_true,beq_iff_eq,not_and]
   exact hn x hx)]
  rfl
 congr 1
 ·exact List.filter_congr fun p _=>counts_plain h p.2
 ·have:countsB (l++[o]) o=true:=by
   rw[counts_plain h]
   unfold countsB
   rw[h0]
   simpa using h
  simp[this]
theorem countI_twice {l:List Opn} {o p:Opn} (h1:o.kind=6) (h2:p.kind=6) (hu:o.unit=p.unit):countI (l++[o]++[p])=countI l:=by
 rw[countI_idx,countI_idx,idx_snoc,idx_snoc,List.filter_append,List.filter_append]
 have e1:∀ k,(([(k,o)]:List (Int × Opn)).filter fun q=>countsB (l++[o]++[p]) q.2)=[]:=fun k=>by
  have:countsB (l++[o]++[p]) o=false:=by unfold countsB;simp[h1]
  rw[List.filter_cons_of_neg (by show ¬ countsB (l++[o]++[p]) o=true;rw[this];decide)];rfl
 have e2:∀ k,(([(k,p)]:List (Int × Opn)).filter fun q=>countsB (l++[o]++[p]) q.2)=[]:=fun k=>by
  have:countsB (l++[o]++[p]) p=false:=by unfold countsB;simp[h2]
  rw[List.filter_cons_of_neg (by show ¬ countsB (l++[o]++[p]) p=true;rw[this];decide)];rfl
 rw[e1,e2,List.append_nil,List.append_nil]
 exact List.filter_congr fun q _=>counts_twice h1 h2 hu q.2
end Go.Proofs.YtdochkemaiokfaaGreat