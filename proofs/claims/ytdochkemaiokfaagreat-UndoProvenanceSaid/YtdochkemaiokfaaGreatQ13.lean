/- Lemmas on what the functions of the program and of the library compute: Ed3, ClB, Es10, Es5, DelB, Es6, PlainCr, Es7. The conditions stand at each. -/
import Derived.Test.YtdochkemaiokfaaGreatQ7
import Derived.Deep.Onto
import Derived.Test.YtdochkemaiokfaaGreatQ4
import Derived.Test.YtdochkemaiokfaaGreatQ1
import Derived.Lib.LazyBuf
import Derived.Deep.CutRange
import Derived.Deep.RegionHeld3
import Derived.Test.YtdochkemaiokfaaGreatQ9
import Derived.Deep.RegionWith
/- The copy of a tree that is being made: the first lists of children are the call's own, the others still the old ones. No condition. -/
namespace Go.Proofs.YtdochkemaiokfaaGreat
open Go.RowKit
structure Half (w0:World) (rv bv:Value) (cs:List BrC) (t:Tr) (k:Nat) (w:World):Prop where
 roots:OwnI w0.heap.size w rv t.roots
 brs:w.ownsRow w0.heap.size 66 6 bv t.brs.length (cs.flatMap BrC.cells)
 len:cs.length=t.brs.length
 each:∀ i (h:i<cs.length) (h':i<t.brs.length),cs[i]=t.brs[i].c cs[i].kv∧(k≤i→SlI w0 cs[i].kv t.brs[i].kids)∧(i<k→OwnI w0.heap.size w cs[i].kv t.brs[i].kids)
 apart:Apart (rv::(cs.take k).map BrC.kv)
section
variable {w0 w w1:World} {rv bv v':Value} {cs:List BrC} {t:Tr} {k:Nat}
theorem Half.start (hr:OwnI w0.heap.size w rv t.roots) (hb:w.ownsRow w0.heap.size 66 6 bv t.brs.length (cs.flatMap BrC.cells)) (hl:cs.length=t.brs.length) (he:∀ i (h:i<cs.length) (h':i<t.brs.length),BrOk w0 cs[i] t.brs[i]):Half w0 rv bv cs t 0 w where
 roots:=hr
 brs:=hb
 len:=hl
 each:=fun i h h'=>⟨(he i h h').1,fun _=>(he i h h').2,fun h=>absurd h (Nat.not_lt_zero _)⟩
 apart:=by
  rw[List.take_zero]
  exact List.pairwise_singleton _ _
theorem Half.grew (h:Half w0 rv bv cs t k w) (hg:Grew w w1):Half w0 rv bv cs t k w1 where
 roots:=own_later h.roots hg
 brs:=own_later h.brs hg
 len:=h.len
 each:=fun i hi hi'=>⟨(h.each i hi hi').1,(h.each i hi hi').2.1,fun hk=>own_later ((h.each i hi hi').2.2 hk) hg⟩
 apart:=h.apart
theorem Half.cells (h:Half w0 rv bv cs t k w) (hk:k<t.brs.length):∃ B cap kv,bv=.slice (some ⟨B,0,none⟩) t.brs.length cap∧w0.heap.size≤B∧B<w.heap.size∧SlI w0 kv t.brs[k].kids∧(∀ j,w.frozen? ⟨B,j,none⟩=false) ∧
  w.cell? ⟨B,k*6,none⟩=some (.int .i64 t.brs[k].id)∧w.cell? ⟨B,k*6+1,none⟩=some (.int .i64 t.brs[k].parent)∧w.cell? ⟨B,k*6+2,none⟩=some (.int .i64 t.brs[k].level)∧w.cell? ⟨B,k*6+3,none⟩=some (.string t.brs[k].title)∧w.cell? ⟨B,k*6+4,none⟩=some (.string t.brs[k].mark)∧w.cell? ⟨B,k*6+5,none⟩=some kv:=by
 have hic:k<cs.length:=by have:=h.len;omega
 obtain⟨e1,e2,-⟩:=h.each k hic hk
 obtain⟨B,cap,hbv,hbb,-,-⟩:=own_form h.brs (by omega)
 subst hbv
 have hlt:=h.brs.lt B rfl
 have key:∀ j,j<6→w.cell? ⟨B,k*6+j,none⟩=cs[k].cells[j]?:=fun j hj=>by
  rw[h.brs.cellAt (k*6+j) (by omega),flatMap_get BrC.cells 6 (fun _=>rfl) cs k j hic hj]
 rw[e1] at key
 exact⟨B,cap,cs[k].kv,rfl,hlt.1,hlt.2,e2 (Nat.le_refl _),fun j=>h.brs.frozenAt _,key 0 (by omega),key 1 (by omega),key 2 (by omega),key 3 (by omega),key 4 (by omega),key 5 (by omega)⟩
theorem Half.step (h:Half w0 rv bv cs t k w) (hk:k<t.brs.length) (hG:Grew w0 w) (hg:Grew w w1) (hv:OwnI w.heap.size w1 v' t.brs[k].kids) {B cap:Nat} (hbv:bv=.slice (some ⟨B,0,none⟩) t.brs.length cap) :
  Half w0 rv bv (cs.set k { cs[k]'(by have:=h.len;omega) with kv:=v' }) t (k+1) (w1.setCell ⟨B,k*6+5,none⟩ v'):=by
 have hic:k<cs.length:=by have:=h.len;omega
 have h1:=h.grew hg
 subst hbv
 obtain⟨curB,hB⟩:=own_ty h1.brs (g:=B) rfl
 have hvb:=World.ownsRow.mono hv hG.size
 have hset:∀ {v:Value} {l:List Int} {b:Nat},OwnI b w1 v l→OwnI b (w1.setCell ⟨B,k*6+5,none⟩ v') v l:=fun hx=>ownsRow_setCell_other hx (own_ne hx hB ne_IB) _
 refine⟨hset h1.roots,?_,by simp[h.len],fun i hi hi'=>?_,?_⟩
 ·have h2:=(h1.brs.stored (k*6+5) v').1
  rw[flat_set (c':={ cs[k] with kv:=v' }) (by omega) rfl cs k hic rfl] at h2
  simpa using h2
 ·have hi2:i<cs.length:=by simpa using hi
  by_cases e:i=k
  ·subst e
   rw[List.getElem_set_self]
   refine⟨?_,fun hx=>absurd hx (by omega),fun _=>hset hvb⟩
   rw[(h.each i hi2 hi').1]
   rfl
  ·rw[List.getElem_set_ne (by omega)]
   obtain⟨a1,a2,a3⟩:=h1.each i hi2 hi'
   exact⟨a1,fun hx=>a2 (by omega),fun hx=>hset (a3 (by omega))⟩
 ·have hic2:k<(cs.set k { cs[k] with kv:=v' }).length:=by simpa using hic
  rw[List.take_succ_eq_append_getElem hic2,List.getElem_set_self,List.take_set_of_le (Nat.le_refl k),List.map_append]
  show Apart ((rv::(cs.take k).map BrC.kv)++[v'])
  refine List.pairwise_append.2 ⟨h.apart,List.pairwise_singleton _ _,fun a ha b hb g hga hgb=>?_⟩
  rw[List.mem_singleton] at hb
  subst hb
  have hlo:=(hv.lt g hgb).1
  have hold:g<w.heap.size:=by
   rcases List.mem_cons.1 ha with e|ha
   ·subst e
    exact(h.roots.lt g hga).2
   ·obtain⟨c,hc,rfl⟩:=List.mem_map.1 ha
    obtain⟨i,hi,rfl⟩:=List.mem_iff_getElem.1 hc
    rw[List.length_take] at hi
    rw[List.getElem_take] at hga
    exact((((h.each i (by omega) (by have:=h.len;omega)).2.2 (by omega))).lt g hga).2
  omega
theorem Half.done (h:Half w0 rv bv cs t t.brs.length w) (hG:Grew w0 w):EdB w0.heap.size w.heap.size bv t (w.alloc (.cells #[rv,bv] 128)):=by
 have h1:=h.grew ((Grew.refl w).alloc (.cells #[rv,bv] 128))
 refine⟨rv,cs,hG.size,(MapKept.heap_alloc w _).1,h1.roots,h1.brs,h.len,fun i hi hi'=>⟨(h1.each i hi hi').1,(h1.each i hi hi').2.2 hi'⟩,?_⟩
 have:=h.apart
 rw[List.take_of_length_le (by have:=h.len;omega)] at this
 exact this
end
end Go.Proofs.YtdochkemaiokfaaGreat
/- slices.Clone at branches. No condition but the sizes that a slice can have. -/
namespace Go.Proofs.YtdochkemaiokfaaGreat
open Go.RowKit
set_option maxHeartbeats 1000000 in
theorem cloneB (l:List BrC) (v:Value) (w:World) (hv:SlB w v l) (h1c:∀ c∈l,c.kv.oneCell'=true) (hb:l.length*80≤140737488355328) :
  Calls Tryz.prog 145 #[v] w fun e w'=>∃ v',e=.returned v'∧w'.ownsRow w.heap.size 66 6 v' l.length (l.flatMap BrC.cells)∧Grew w w':=by
 obtain⟨A,n,c,rfl,hl,hn,hc,hr⟩:=hv
 have hfl:=flatMap_len BrC.cells 6 (fun _=>rfl) l
 obtain rfl:n=l.length:=by omega
 unfold maxLen at hc
 have q22:∀(w:World) (a:Option Addr) (n c:Nat),(binOp .eql 41 (.slice a n c) (.slice none 0 0)).run Tryz.prog w=.ok (.bool a.isNone) w:=fun w a n c=>Lib.run_eql_slice_nil w _ _ a n c 0 0 Tryz.underlying41
 cases A with
 | none =>
  have h0:l.length=0:=by
   rcases Nat.eq_zero_or_pos l.length with h|h
   ·exact h
   ·obtain⟨b,off,hA,_⟩:=hr h
    cases hA
  obtain rfl:l=[]:=List.eq_nil_of_length_eq_zero h0
  clear hr hl hn hfl h0 hb
  go_enter Tryz.func145,Tryz.ntmps145
  go_wp2
  go_ret
  exact⟨_,rfl,World.ownsRow_nil _ _ _ _,Grew.refl w⟩
 | some ad =>
  have hcells:∀ j u,(l.flatMap BrC.cells)[j]? = some u→w.cell? (ad.add j)=some u:=by
   intro j u hu
   have h0:0<l.length:=by
    rcases Nat.eq_zero_or_pos l.length with h|h
    ·have:=(List.getElem?_eq_some_iff.1 hu).1
     rw[hfl,h] at this
     omega
    ·exact h
   obtain⟨b,off,hA,_,hcell⟩:=hr h0
   cases hA
   rw[add_lit]
   exact hcell j u hu
  have HC:=Lib.hid hcells
  have H1:=Lib.hid (one_cellsB l h1c)
  have HL:=Lib.hid hl
  generalize l.flatMap BrC.cells=cs at HC H1 HL ⊢
  clear hcells hr hl hfl
  obtain⟨i0,hi,hz0,hz1,hz2⟩:=info_parts cinfoB
  go_enter Tryz.func145,Tryz.ntmps145
  go_wp2_with (at_builtin;refine wpList_append_own _ rfl _ _ 41 rfl w.heap.size 66 i0 (.agg #[.int .i64 0,.int .i64 0,.int .i64 0,.string ⟨#[]⟩,.string ⟨#[]⟩,.slice none 0 0]) 6 80 Tryz.underlying41 hi hz0 hz1 hz2 rfl (by omega) _ _ _ rfl (World.ownsRow_made w #[] 0 (Nat.le_refl _) (Nat.zero_le _) (by simp)) ad l.length c cs rfl ?qc1 ?qc2 ?qc3 ?qc4 ?qc5 ?qc6 ?_)
  case qc1=>exact HL.out
  case qc2=>exact fun j u hu=>(Grew.cell ((Grew.refl w).alloc _) (by
   have:=block_lt_of_cell (HC.out j u hu)
   exact this)).trans (HC.out j u hu)
  case qc3=>exact H1.out
  case qc4=>unfold maxLen;omega
  case qc5=>omega
  case qc6=>simp
  intro v' w1 hown hgrow _
  go_wp2
  go_ret
  refine⟨v',rfl,by simpa using hown,?_⟩
  exact Below.grown ((Below.refl w.heap.size w).alloc (Nat.le_refl _) _) hgrow (by simp) (fun k hk=>by simp[Value.ownBlock] at hk;omega)
theorem slI_one {w:World} {v:Value} {l:List Int} (h:SlI w v l):v.oneCell'=true:=by
 obtain⟨A,c,rfl,-⟩:=SlI.open_ h
 rfl
end Go.Proofs.YtdochkemaiokfaaGreat
/- rearrange: edit, walked: a copy of a tree on the heap, behind a pointer. The condition: the lists are short. -/
namespace Go.Proofs.YtdochkemaiokfaaGreat
open Go.RowKit
theorem heap_grew {a b:World} (g:Grew a b) {X:Nat} {o:Obj} (h:a.heap[X]? = some o):b.heap[X]? = some o:=by
 rw[g.block X (Array.getElem?_eq_some_iff.1 h).1]
 exact h
theorem heap_allocE {a:World} {X:Nat} {p:Obj} (h:X=a.heap.size):(a.alloc p).heap[X]? = some p:=by
 subst h
 exact(MapKept.heap_alloc a p).1
theorem heldQ (w1 W:World) {p q:Addr} {x y:Value} (h:w1.cell? p=some x) (h2:w1.cell? q=some y) (g:Grew w1 W):W.cell? p=some x∧W.cell? q=some y∧Grew w1 W:=⟨keep_cell g h,keep_cell g h2,g⟩
theorem heldQ2 (w1 W:World) {p q:Addr} {x y:Value} (h:w1.cell? p=some x) (h2:w1.cell? q=some y) (g:Grew w1 W):W.cell? p=some x∧W.cell? q=some y:=⟨keep_cell g h,keep_cell g h2⟩
theorem heldQ3 (W:World) (a:Addr) (u:Value) {p q:Addr} {x y:Value} (hp:p.block≠a.block) (hq:q.block≠a.block) (h:W.cell? p=some x) (h2:W.cell? q=some y):(W.setCell a u).cell? p=some x∧(W.setCell a u).cell? q=some y:=⟨by
 rw[World.cell?_setCell_other _ _ _ _ (fun e=>hp (by rw[e]))]
 exact h,by
 rw[World.cell?_setCell_other _ _ _ _ (fun e=>hq (by rw[e]))]
 exact h2⟩
theorem new_frz {w W:World} {cs:List Value} {t:TypeId} (h:Grew (w.alloc (.cells cs.toArray t)) W) (j:Nat):W.frozen? ⟨w.heap.size,j,none⟩=false:=(h.frozen (p:=⟨w.heap.size,j,none⟩) (by simp)).trans (by simp)
def EditCut (w:World) (t:Tr) (cs:List BrC) (s:Value) (W:World):Prop:=∃ X rv bv,s=.pointer (some ⟨X,0,none⟩)∧W.heap[X]? = some (.cells #[rv,bv] 43 (0,0))∧OwnI w.heap.size W rv t.roots∧W.ownsRow w.heap.size 66 6 bv cs.length (cs.flatMap BrC.cells)∧Grew w W∧w.heap.size≤X
theorem ne_IT:(3:Nat)≠43:=by decide
theorem ne_BT:(66:Nat)≠43:=by decide
theorem edit_meet {w W W1 W2:World} {t:Tr} {cs:List BrC} {X:Nat} {a b v1 v2:Value} (hX:W.heap[X]? = some (.cells #[a,b] 43 (0,0))) (hlo:w.heap.size≤X) (hG:Grew w W) (h1:OwnI w.heap.size W1 v1 t.roots) (g1:Grew W1 W)
  (h2:W2.ownsRow w.heap.size 66 6 v2 cs.length (cs.flatMap BrC.cells)) (g2:Grew W2 W):EditCut w t cs (.pointer (some ⟨X,0,none⟩)) ((W.setCell ⟨X,0,none⟩ v1).setCell ⟨X,1,none⟩ v2):=by
 have hX1:(W.setCell ⟨X,0,none⟩ v1).heap[X]? = some (.cells #[v1,b] 43 (0,0)):=by
  have:=heap_setCell_same W X 0 #[a,b] 43 v1 hX
  simpa using this
 have hX2:((W.setCell ⟨X,0,none⟩ v1).setCell ⟨X,1,none⟩ v2).heap[X]? = some (.cells #[v1,v2] 43 (0,0)):=by
  have:=heap_setCell_same (W.setCell ⟨X,0,none⟩ v1) X 1 #[v1,b] 43 v2 hX1
  simpa using this
 have h1W:=own_later h1 g1
 have h2W:=own_later h2 g2
 have h1a:=ownsRow_setCell_other (a:=⟨X,0,none⟩) h1W (own_ne (g:=X) h1W hX ne_IT) v1
 have h2a:=ownsRow_setCell_other (a:=⟨X,0,none⟩) h2W (own_ne (g:=X) h2W hX ne_BT) v1
 exact⟨X,v1,v2,rfl,hX2,ownsRow_setCell_other (a:=⟨X,1,none⟩) h1a (own_ne (g:=X) h1a hX1 ne_IT) _,ownsRow_setCell_other (a:=⟨X,1,none⟩) h2a (own_ne (g:=X) h2a hX1 ne_BT) _,(hG.setCell hlo _).setCell hlo _,hlo⟩
theorem edit_meet2 {w W W1 W2:World} {t:Tr} {cs:List BrC} {v1 v2:Value} (hG:Grew w W) (h1:OwnI w.heap.size W1 v1 t.roots) (g1:Grew W1 W)
  (h2:W2.ownsRow w.heap.size 66 6 v2 cs.length (cs.flatMap BrC.cells)) (g2:Grew W2 W):EditCut w t cs (.pointer (some ⟨W.heap.size,0,none⟩)) (W.alloc (.cells #[v1,v2] 43)) :=
 ⟨_,v1,v2,rfl,heap_allocE rfl,own_later h1 (g1.alloc _),own_later h2 (g2.alloc _),hG.alloc _,hG.size⟩
def RoundCut (w:World) (rv bv:Value) (cs:List BrC) (t:Tr) (k X:Nat) (W:World):Prop:=∃ cs',Half w rv bv cs' t (k+1) W∧cs'.length=cs.length∧W.heap[X]? = some (.cells #[rv,bv] 43 (0,0))∧Grew w W
theorem round_meet {w w1 W:World} {rv v':Value} {cs:List BrC} {t:Tr} {k X B cap:Nat} (h:Half w rv (.slice (some ⟨B,0,none⟩) t.brs.length cap) cs t k w1) (hk:k<t.brs.length) (hG:Grew w w1) (hg:Grew w1 W) (hv:OwnI w1.heap.size W v' t.brs[k].kids)
  (hX:w1.heap[X]? = some (.cells #[rv,.slice (some ⟨B,0,none⟩) t.brs.length cap] 43 (0,0))):RoundCut w rv (.slice (some ⟨B,0,none⟩) t.brs.length cap) cs t k X (W.setCell ⟨B,k*6+5,none⟩ v'):=by
 have hne:X≠B:=by
  intro e
  subst e
  obtain⟨c,hc⟩:=own_ty h.brs (g:=X) rfl
  rw[hX] at hc
  injection hc with hc
  injection hc with _ hc _
  exact ne_BT hc.symm
 refine⟨_,h.step hk hG hg hv rfl,by simp,heap_set _ _ (heap_grew hg hX) hne,?_⟩
 exact(hG.trans hg).setCell (h.brs.lt B rfl).1 _
set_option maxHeartbeats 4000000 in
set_option maxRecDepth 100000 in
theorem rEdit (t:Tr) (rv bv:Value) (w:World) (hr:SlI w rv t.roots) (hv:SlBr w bv t.brs) (hf:FewBr t.brs) (hrl:t.roots.length≤1000000) :
  Calls Tryz.prog 99 #[.agg #[rv,bv]] w fun e w'=>∃ E bv',e=.returned (.pointer (some ⟨E,0,none⟩))∧EdB w.heap.size E bv' t w'∧Grew w w':=by
 obtain⟨cs,hB,hcl,hok⟩:=hv
 have h1c:∀ c∈cs,c.kv.oneCell'=true:=by
  intro c hc
  obtain⟨i,hi,rfl⟩:=List.mem_iff_getElem.1 hc
  exact slI_one (hok i hi (by omega)).2
 have hfl:=hf.1
 have KR:=Lib.hid (fun W (hW:Grew w W)=>cloneI t.roots rv W (hr.mono hW) (by omega))
 have KB:=Lib.hid (fun W (hW:Grew w W)=>cloneB cs bv W (hB.mono hW) h1c (by omega))
 have HOK:=Lib.hid hok
 have HFK:=Lib.hid (fun k (hk:k<t.brs.length)=>hf.2 k hk)
 obtain⟨Ar,cr,rfl,-⟩:=SlI.open_ hr
 obtain⟨Ab,cb,hbv,-⟩:=SlB.open_ hB
 rw[hcl] at hbv
 subst hbv
 have HCL:=Lib.hid hcl
 clear hr hB h1c hok hf hrl hcl
 have b0:=new_cell (Grew.refl (w.alloc (.cells #[.slice Ar t.roots.length cr,.slice Ab t.brs.length cb] 43))) 0 _ rfl
 have b1:=new_cell (Grew.refl (w.alloc (.cells #[.slice Ar t.roots.length cr,.slice Ab t.brs.length cb] 43))) 1 _ rfl
 have GA:=Lib.hid ((Grew.refl w).alloc (.cells #[.slice Ar t.roots.length cr,.slice Ab t.brs.length cb] 43))
 go_enter Tryz.func99,Tryz.ntmps99
 go_wp2_with fail
 generalize w.alloc (.cells #[.slice Ar t.roots.length cr,.slice Ab t.brs.length cb] 43)=WA at b0 b1 GA ⊢
 go_cut [3] from 6 to 12 (fun s3 wx=>EditCut w t cs s3 wx)
 case first =>
  as_aux_lemma =>
  go_region_held3 (fun W=>W.cell? ⟨w.heap.size,0,none⟩=some (.slice Ar t.roots.length cr)∧W.cell? ⟨w.heap.size,1,none⟩=some (.slice Ab t.brs.length cb)∧Grew WA W) (refine heldQ WA _ b0 b1 (by repeat (first|exact Grew.refl WA|exact GB1.out|exact GB2.out|refine Grew.drew ?_|refine Grew.alloc ?_ _|refine Grew.setCell ?_ (by first|exact Nat.le_refl _|exact GB1.out.size|exact GB2.out.size|simp) _))) (first|(go_at_call 144;refine(KR.out _ (by repeat (first|exact GW2.out|exact GA.out|refine Grew.drew ?_|refine Grew.alloc ?_ _))).mono ?_;rintro e w1 ⟨v1,rfl,ho1,g1⟩;have HO1:=Lib.hid (World.ownsRow.mono (base':=w.heap.size) ho1 (Grew.size (by repeat (first|exact GW2.out|exact GA.out|refine Grew.drew ?_|refine Grew.alloc ?_ _))));have GB1:=Lib.hid (show Grew WA w1 from Grew.trans (by repeat (first|exact Grew.refl WA|exact GB2.out|refine Grew.drew ?_|refine Grew.alloc ?_ _)) g1);have GW1:=Lib.hid (GA.out.trans GB1.out);(try have GX1:=Lib.hid (show Grew w2 w1 from Grew.trans (by repeat (first|exact Grew.refl w2|refine Grew.drew ?_|refine Grew.alloc ?_ _)) g1));have x10:=keep_cell GB1.out b0;have x11:=keep_cell GB1.out b1;have HG1:=Lib.hid g1;obtain⟨A1,c1,rfl⟩:=own_slice ho1;(try have Na1:=Lib.hid (show Grew (WA.alloc (.cells [.slice none 0 0,.slice none 0 0].toArray 43)) w1 from Grew.trans (show Grew (WA.alloc (.cells [.slice none 0 0,.slice none 0 0].toArray 43)) ((WA.alloc (.cells [.slice none 0 0,.slice none 0 0].toArray 43)).drew) from(Grew.refl _).drew) g1));(try have Nb1:=Lib.hid (show Grew (WA.alloc (.cells [.slice none 0 0,.slice none 0 0].toArray 43)) w1 from Grew.trans (show Grew (WA.alloc (.cells [.slice none 0 0,.slice none 0 0].toArray 43)) (WA.alloc (.cells [.slice none 0 0,.slice none 0 0].toArray 43)) from Grew.refl _) g1));(try have Nc1:=Lib.hid (show Grew (w2.alloc (.cells [.slice none 0 0,.slice none 0 0].toArray 43)) w1 from Grew.trans (show Grew (w2.alloc (.cells [.slice none 0 0,.slice none 0 0].toArray 43)) ((w2.alloc (.cells [.slice none 0 0,.slice none 0 0].toArray 43)).drew) from(Grew.refl _).drew) g1));(try have Nd1:=Lib.hid (show Grew (w2.alloc (.cells [.slice none 0 0,.slice none 0 0].toArray 43)) w1 from Grew.trans (show Grew (w2.alloc (.cells [.slice none 0 0,.slice none 0 0].toArray 43)) (w2.alloc (.cells [.slice none 0 0,.slice none 0 0].toArray 43)) from Grew.refl _) g1));(try have Nea1:=Lib.hid (show Grew (WA.alloc (.cells [.slice none 0 0,.slice none 0 0].toArray 43)) w1 from Grew.trans Na2.out.drew g1));(try have Nfa1:=Lib.hid (show Grew (WA.alloc (.cells [.slice none 0 0,.slice none 0 0].toArray 43)) w1 from Grew.trans Na2.out g1));(try have Neb1:=Lib.hid (show Grew (WA.alloc (.cells [.slice none 0 0,.slice none 0 0].toArray 43)) w1 from Grew.trans Nb2.out.drew g1));(try have Nfb1:=Lib.hid (show Grew (WA.alloc (.cells [.slice none 0 0,.slice none 0 0].toArray 43)) w1 from Grew.trans Nb2.out g1));(try have cNa01:=new_cell Na1.out 0 _ rfl);(try have fNa01:=new_frz Na1.out 0);(try have cNa11:=new_cell Na1.out 1 _ rfl);(try have fNa11:=new_frz Na1.out 1);(try have cNb01:=new_cell Nb1.out 0 _ rfl);(try have fNb01:=new_frz Nb1.out 0);(try have cNb11:=new_cell Nb1.out 1 _ rfl);(try have fNb11:=new_frz Nb1.out 1);(try have cNc01:=new_cell Nc1.out 0 _ rfl);(try have fNc01:=new_frz Nc1.out 0);(try have cNc11:=new_cell Nc1.out 1 _ rfl);(try have fNc11:=new_frz Nc1.out 1);(try have cNd01:=new_cell Nd1.out 0 _ rfl);(try have fNd01:=new_frz Nd1.out 0);(try have cNd11:=new_cell Nd1.out 1 _ rfl);(try have fNd11:=new_frz Nd1.out 1);(try have cNea01:=new_cell Nea1.out 0 _ rfl);(try have fNea01:=new_frz Nea1.out 0);(try have cNea11:=new_cell Nea1.out 1 _ rfl);(try have fNea11:=new_frz Nea1.out 1);(try have cNeb01:=new_cell Neb1.out 0 _ rfl);(try have fNeb01:=new_frz Neb1.out 0);(try have cNeb11:=new_cell Neb1.out 1 _ rfl);(try have fNeb11:=new_frz Neb1.out 1);(try have cNfa01:=new_cell Nfa1.out 0 _ rfl);(try have fNfa01:=new_frz Nfa1.out 0);(try have cNfa11:=new_cell Nfa1.out 1 _ rfl);(try have fNfa11:=new_frz Nfa1.out 1);(try have cNfb01:=new_cell Nfb1.out 0 _ rfl);(try have fNfb01:=new_frz Nfb1.out 0);(try have cNfb11:=new_cell Nfb1.out 1 _ rfl);(try have fNfb11:=new_frz Nfb1.out 1);clear ho1 g1)|(go_at_call 145;refine(KB.out _ (by repeat (first|exact GW1.out|exact GA.out|refine Grew.drew ?_|refine Grew.alloc ?_ _))).mono ?_;rintro e w2 ⟨v2,rfl,ho2,g2⟩;have HO2:=Lib.hid (World.ownsRow.mono (base':=w.heap.size) ho2 (Grew.size (by repeat (first|exact GW1.out|exact GA.out|refine Grew.drew ?_|refine Grew.alloc ?_ _))));have GB2:=Lib.hid (show Grew WA w2 from Grew.trans (by repeat (first|exact Grew.refl WA|exact GB1.out|refine Grew.drew ?_|refine Grew.alloc ?_ _)) g2);have GW2:=Lib.hid (GA.out.trans GB2.out);(try have GX2:=Lib.hid (show Grew w1 w2 from Grew.trans (by repeat (first|exact Grew.refl w1|refine Grew.drew ?_|refine Grew.alloc ?_ _)) g2));have x20:=keep_cell GB2.out b0;have x21:=keep_cell GB2.out b1;have HG2:=Lib.hid g2;obtain⟨A2,c2,rfl⟩:=own_slice ho2;(try have Na2:=Lib.hid (show Grew (WA.alloc (.cells [.slice none 0 0,.slice none 0 0].toArray 43)) w2 from Grew.trans (show Grew (WA.alloc (.cells [.slice none 0 0,.slice none 0 0].toArray 43)) ((WA.alloc (.cells [.slice none 0 0,.slice none 0 0].toArray 43)).drew) from(Grew.refl _).drew) g2));(try have Nb2:=Lib.hid (show Grew (WA.alloc (.cells [.slice none 0 0,.slice none 0 0].toArray 43)) w2 from Grew.trans (show Grew (WA.alloc (.cells [.slice none 0 0,.slice none 0 0].toArray 43)) (WA.alloc (.cells [.slice none 0 0,.slice none 0 0].toArray 43)) from Grew.refl _) g2));(try have Nc2:=Lib.hid (show Grew (w1.alloc (.cells [.slice none 0 0,.slice none 0 0].toArray 43)) w2 from Grew.trans (show Grew (w1.alloc (.cells [.slice none 0 0,.slice none 0 0].toArray 43)) ((w1.alloc (.cells [.slice none 0 0,.slice none 0 0].toArray 43)).drew) from(Grew.refl _).drew) g2));(try have Nd2:=Lib.hid (show Grew (w1.alloc (.cells [.slice none 0 0,.slice none 0 0].toArray 43)) w2 from Grew.trans (show Grew (w1.alloc (.cells [.slice none 0 0,.slice none 0 0].toArray 43)) (w1.alloc (.cells [.slice none 0 0,.slice none 0 0].toArray 43)) from Grew.refl _) g2));(try have Nea2:=Lib.hid (show Grew (WA.alloc (.cells [.slice none 0 0,.slice none 0 0].toArray 43)) w2 from Grew.trans Na1.out.drew g2));(try have Nfa2:=Lib.hid (show Grew (WA.alloc (.cells [.slice none 0 0,.slice none 0 0].toArray 43)) w2 from Grew.trans Na1.out g2));(try have Neb2:=Lib.hid (show Grew (WA.alloc (.cells [.slice none 0 0,.slice none 0 0].toArray 43)) w2 from Grew.trans Nb1.out.drew g2));(try have Nfb2:=Lib.hid (show Grew (WA.alloc (.cells [.slice none 0 0,.slice none 0 0].toArray 43)) w2 from Grew.trans Nb1.out g2));(try have cNa02:=new_cell Na2.out 0 _ rfl);(try have fNa02:=new_frz Na2.out 0);(try have cNa12:=new_cell Na2.out 1 _ rfl);(try have fNa12:=new_frz Na2.out 1);(try have cNb02:=new_cell Nb2.out 0 _ rfl);(try have fNb02:=new_frz Nb2.out 0);(try have cNb12:=new_cell Nb2.out 1 _ rfl);(try have fNb12:=new_frz Nb2.out 1);(try have cNc02:=new_cell Nc2.out 0 _ rfl);(try have fNc02:=new_frz Nc2.out 0);(try have cNc12:=new_cell Nc2.out 1 _ rfl);(try have fNc12:=new_frz Nc2.out 1);(try have cNd02:=new_cell Nd2.out 0 _ rfl);(try have fNd02:=new_frz Nd2.out 0);(try have cNd12:=new_cell Nd2.out 1 _ rfl);(try have fNd12:=new_frz Nd2.out 1);(try have cNea02:=new_cell Nea2.out 0 _ rfl);(try have fNea02:=new_frz Nea2.out 0);(try have cNea12:=new_cell Nea2.out 1 _ rfl);(try have fNea12:=new_frz Nea2.out 1);(try have cNeb02:=new_cell Neb2.out 0 _ rfl);(try have fNeb02:=new_frz Neb2.out 0);(try have cNeb12:=new_cell Neb2.out 1 _ rfl);(try have fNeb12:=new_frz Neb2.out 1);(try have cNfa02:=new_cell Nfa2.out 0 _ rfl);(try have fNfa02:=new_frz Nfa2.out 0);(try have cNfa12:=new_cell Nfa2.out 1 _ rfl);(try have fNfa12:=new_frz Nfa2.out 1);(try have cNfb02:=new_cell Nfb2.out 0 _ rfl);(try have fNfb02:=new_frz Nfb2.out 0);(try have cNfb12:=new_cell Nfb2.out 1 _ rfl);(try have fNfb12:=new_frz Nfb2.out 1);clear ho2 g2))
  all_goals go_wp2_with fail
  all_goals go_meet
  all_goals first|refine edit_meet2 ?_ HO1.out ?_ HO2.out ?_|refine edit_meet (a:=.slice none 0 0) (b:=.slice none 0 0) ?_ ?_ ?_ HO1.out ?_ HO2.out ?_
  all_goals first|exact GA.out.size|exact GW1.out.size|exact GW2.out.size|exact heap_allocE rfl|exact heap_grew Na1.out (heap_allocE rfl)|exact heap_grew Na2.out (heap_allocE rfl)|exact heap_grew Nb1.out (heap_allocE rfl)|exact heap_grew Nb2.out (heap_allocE rfl)|exact heap_grew Nc1.out (heap_allocE rfl)|exact heap_grew Nc2.out (heap_allocE rfl)|exact heap_grew Nd1.out (heap_allocE rfl)|exact heap_grew Nd2.out (heap_allocE rfl)|exact heap_grew Nea1.out (heap_allocE rfl)|exact heap_grew Nea2.out (heap_allocE rfl)|exact heap_grew Neb1.out (heap_allocE rfl)|exact heap_grew Neb2.out (heap_allocE rfl)|exact heap_grew Nfa1.out (heap_allocE rfl)|exact heap_grew Nfa2.out (heap_allocE rfl)|exact heap_grew Nfb1.out (heap_allocE rfl)|exact heap_grew Nfb2.out (heap_allocE rfl)|((repeat (first|exact GW1.out|exact GW2.out|refine Grew.drew ?_|refine Grew.alloc ?_ _));done)|((repeat (first|exact Grew.refl w1|exact GX2.out|refine Grew.drew ?_|refine Grew.alloc ?_ _));done)|((repeat (first|exact Grew.refl w2|exact GX1.out|refine Grew.drew ?_|refine Grew.alloc ?_ _));done)
 case rest =>
  as_aux_lemma =>
  obtain⟨X,rv,bv,rfl,hX,ho,hb,hG,hXlo⟩:=hcut
  rw[HCL.out] at hb
  have HS:=Lib.hid (Half.start ho hb HCL.out HOK.out)
  obtain⟨A1,c1,rfl⟩:=own_slice ho
  obtain⟨A2,c2,rfl⟩:=own_slice hb
  have x0:wc.cell? ⟨X,0,none⟩=some (.slice A1 t.roots.length c1):=by simp[World.cell?,hX]
  have x1:wc.cell? ⟨X,1,none⟩=some (.slice A2 t.brs.length c2):=by simp[World.cell?,hX]
  have HX:=Lib.hid hX
  have HGC:=Lib.hid hG
  clear ho hb hX hG b0 b1 GA HOK KR KB
  go_wp2
  clear x0 x1
  go_loopg [16] t.brs.length (fun gg s16 wr=>∃(k:Nat) (ds:List BrC),k≤t.brs.length∧t.brs.length-k≤gg∧s16=.int .i64 k∧Aside (Half w (.slice A1 t.roots.length c1) (.slice A2 t.brs.length c2) ds t k wr)∧Aside (wr.heap[X]? = some (.cells #[.slice A1 t.roots.length c1,.slice A2 t.brs.length c2] 43 (0,0)))∧Aside (Grew w wr))
  case atStart=>exact⟨0,cs,by omega,by omega,rfl,(show Aside _ from HS.out),(show Aside _ from HX.out),(show Aside _ from HGC.out)⟩
  case round =>
   clear HS HX HGC hXlo
   obtain⟨k,ds,hkl,hgk,rfl,HH,HX,GW⟩:=hrel
   have x0:wr.cell? ⟨X,0,none⟩=some (.slice A1 t.roots.length c1):=by have:=HX.out;simp[World.cell?,this]
   have x1:wr.cell? ⟨X,1,none⟩=some (.slice A2 t.brs.length c2):=by have:=HX.out;simp[World.cell?,this]
   by_cases hlt:k<t.brs.length
   ·have hltz:(k:Int)<(t.brs.length:Int):=by omega
    have h0z:(0:Int)≤(k:Int):=by omega
    obtain⟨B,cap,kv,e,hlo,hBs,hkv,hfz,c0,c1',c2',c3,c4,c5⟩:=HH.out.cells hlt
    injection e with e1 _ e2
    subst e1 e2
    have hlk:=HFK.out k hlt
    have KK:=Lib.hid (fun W (hW:Grew w W)=>cloneI t.brs[k].kids kv W (hkv.mono hW) (by omega))
    obtain⟨Ak,ck,rfl,-⟩:=SlI.open_ hkv
    have HY:=Lib.hid (fun W v' (hg:Grew wr W) (hv:OwnI wr.heap.size W v' t.brs[k].kids)=>round_meet HH.out hlt GW.out hg hv HX.out)
    have hz5:=hfz (k*6+5)
    have hXB:X≠B:=by
     intro e
     subst e
     obtain⟨c,hc⟩:=own_ty HH.out.brs (g:=X) rfl
     rw[HX.out] at hc
     injection hc with hc
     injection hc with _ hc _
     exact ne_BT hc.symm
    have hRB:wr.heap.size≠B:=by omega
    clear hkv hlk hfz
    generalize t.brs[k]=y at c0 c1' c2' c3 c4 c5 KK HY
    obtain⟨yi,yp,yl,yt,ym,yk⟩:=y
    dsimp only at c0 c1' c2' c3 c4 c5 KK HY
    go_wp2_with fail
    have d5:=new_cell (Grew.refl (wr.alloc (.cells #[.int .i64 yi,.int .i64 yp,.int .i64 yl,.string yt,.string ym,.slice Ak yk.length ck] 66))) 5 _ rfl
    have GB:=Lib.hid ((Grew.refl wr).alloc (.cells #[.int .i64 yi,.int .i64 yp,.int .i64 yl,.string yt,.string ym,.slice Ak yk.length ck] 66))
    have f5:=(GB.out.frozen (p:=⟨B,k*6+5,none⟩) hBs).trans hz5
    have y1:=keep_cell GB.out x1
    have y5:=keep_cell GB.out c5
    have hBs2:B<(wr.alloc (.cells #[.int .i64 yi,.int .i64 yp,.int .i64 yl,.string yt,.string ym,.slice Ak yk.length ck] 66)).heap.size:=Nat.lt_of_lt_of_le hBs GB.out.size
    clear x0 x1 c0 c1' c2' c3 c4 c5 hz5
    generalize wr.alloc (.cells #[.int .i64 yi,.int .i64 yp,.int .i64 yl,.string yt,.string ym,.slice Ak yk.length ck] 66)=WB at d5 GB f5 y1 y5 hBs2 ⊢
    go_region_held3 (fun W=>W.cell? ⟨X,1,none⟩=some (.slice (some ⟨B,0,none⟩) t.brs.length c2)∧W.cell? ⟨wr.heap.size,5,none⟩=some (.slice Ak yk.length ck)) (first|(refine heldQ2 WB _ y1 d5 ?_;(repeat (first|exact Grew.refl WB|exact GB1.out|refine Grew.drew ?_));done)|exact heldQ3 w1 ⟨B,k*6+5,none⟩ _ hXB hRB z1 zd) ((go_at_call 144;refine(KK.out _ (GW.out.trans (by repeat (first|exact GB.out|refine Grew.drew ?_)))).mono ?_;rintro e w1 ⟨v1,rfl,ho1,g1⟩;have GB1:=Lib.hid (show Grew WB w1 from Grew.trans (by repeat (first|exact Grew.refl WB|refine Grew.drew ?_)) g1);have HO1:=Lib.hid (World.ownsRow.mono (base':=wr.heap.size) ho1 (Grew.size (by repeat (first|exact GB.out|refine Grew.drew ?_))));obtain⟨A3,c3,rfl⟩:=own_slice ho1;have z1:=keep_cell GB1.out y1;have z5:=keep_cell GB1.out y5;have zd:=keep_cell GB1.out d5;have g5:=(GB1.out.frozen (p:=⟨B,k*6+5,none⟩) hBs2).trans f5;clear ho1 g1))
    go_wp2
    go_roundg (t.brs.length-(k+1))
    case measure=>omega
    case rel =>
     obtain⟨ds2,hH2,-,hX2,hG2⟩:=HY.out _ _ (GB.out.trans GB1.out) HO1.out
     exact⟨k+1,ds2,by omega,by omega,by go_num,(show Aside _ from hH2),(show Aside _ from hX2),(show Aside _ from hG2)⟩
   ·have hltz:¬ (k:Int)<(t.brs.length:Int):=by omega
    obtain rfl:k=t.brs.length:=by omega
    go_wp2
    go_ret
    exact⟨_,rfl,⟨_,HH.out.done GW.out⟩,GW.out.alloc _⟩
end Go.Proofs.YtdochkemaiokfaaGreat
/- The editor's rename and mark, walked. The conditions: the tree is right; the lists are short. -/
namespace Go.Proofs.YtdochkemaiokfaaGreat
open Go.RowKit
theorem opn_cells {w W:World} {t:TypeId} (o:Opn) (h:Grew (w.alloc (.cells o.cells.toArray t)) W) :
  W.cell? ⟨w.heap.size,3,none⟩=some (.int .i64 o.unit)∧W.cell? ⟨w.heap.size,4,none⟩=some (.int .i64 o.parent)∧W.cell? ⟨w.heap.size,5,none⟩=some (.int .i64 o.before)∧W.cell? ⟨w.heap.size,6,none⟩=some (.int .i64 o.level)∧W.cell? ⟨w.heap.size,7,none⟩=some (.string o.title)∧W.cell? ⟨w.heap.size,8,none⟩=some (.string o.mark) :=
 ⟨new_cell h 3 _ rfl,new_cell h 4 _ rfl,new_cell h 5 _ rfl,new_cell h 6 _ rfl,new_cell h 7 _ rfl,new_cell h 8 _ rfl⟩
section
variable {w0:World} {E:Nat} {bv:Value} {t:Tr} {w:World}
theorem fieldDone {w1:World} {i j:Nat} {B cap:Nat} (h:EdB w0.heap.size E bv t w1) (hG:Grew w0 w1) (hT:TOk t) (hi:i<t.brs.length) (hj:j<5) (hbv:bv=.slice (some ⟨B,0,none⟩) t.brs.length cap) (f:Br→Br) (u:Value) (hf:∀ kv,((f t.brs[i]).c kv).cells=(t.brs[i].c kv).cells.set j u) (hk:(f t.brs[i]).kids=t.brs[i].kids) {n:Int} (hn:t.brs[i].id=n) :
  MEnd w0 E (setU t n f) 0 (.returned (.int .i64 0)) (w1.setCell ⟨B,i*6+j,none⟩ u)∧w1.frozen? ⟨B,i*6+j,none⟩=false∧∃ v,w1.cell? ⟨B,i*6+j,none⟩=some v:=by
 obtain⟨rv,cs,hE⟩:=h
 obtain⟨c0,c1,c2,c3,c4,-,hz,hlo,hlt⟩:=hE.at_ hi hbv
 subst hn
 refine⟨⟨rfl,hG.setCell (p:=⟨B,i*6+j,none⟩) hlo u,fun _=>⟨bv,hE.field hT.asc hi hj hbv f u hf hk⟩⟩,hz _,?_⟩
 have:j=0∨j=1∨j=2∨j=3∨j=4:=by omega
 rcases this with rfl|rfl|rfl|rfl|rfl
 ·exact⟨_,c0⟩
 ·exact⟨_,c1⟩
 ·exact⟨_,c2⟩
 ·exact⟨_,c3⟩
 ·exact⟨_,c4⟩
set_option maxHeartbeats 2000000 in
theorem edRename (h:EdB w0.heap.size E bv t w) (hG:Grew w0 w) (hT:TOk t) (o:Opn) :
  Calls Tryz.prog 94 #[.pointer (some ⟨E,0,none⟩),o.agg] w (MEnd w0 E (setU t o.unit fun b=>{ b with title:=o.title }) (if (brFind t.brs o.unit).isSome then 0 else 7)):=by
 have hC:=fun W (hW:Grew (w.alloc (.cells o.cells.toArray 26)) W)=>opn_cells o hW
 have HC:=Lib.hid hC
 have HG:=Lib.hid hG
 cases hb:brFind t.brs o.unit with
 | none =>
  have KB:=Lib.hid (fun W (hW:Grew w W)=>edBranchNo (h.grew hW) hT.asc hT.len hb)
  dsimp only [Option.isSome_none]
  obtain⟨oi,od,ok,ou,op,ob,ol,ot,om,oo,oa,on⟩:=o
  unfold Opn.agg
  clear h hG hT hb hC
  dsimp only [Opn.cells] at KB HC ⊢
  go_enter Tryz.func94,Tryz.ntmps94
  go_wp2_with fail
  refine(KB.out _ ((Grew.refl w).alloc _)).mono ?_
  rintro e w1 ⟨rfl,g1⟩
  dsimp only
  go_wp2
  go_ret
  exact⟨rfl,HG.out.trans (((Grew.refl w).alloc _).trans g1),fun h=>by cases h⟩
 | some b =>
  obtain⟨i,hi,-,ei⟩:=find_at hb
  obtain⟨B,cap,hbv⟩:=h.at_ hi
  have KB:=Lib.hid (fun W (hW:Grew w W)=>edBranch (h.grew hW) hT.asc hT.len hi hbv)
  have HD:=Lib.hid (fun W (hW:Grew w W)=>fieldDone (h.grew hW) (hG.trans hW) hT hi (j:=3) (by omega) hbv (fun b=>{ b with title:=o.title }) (.string o.title) (fun _=>rfl) rfl ei)
  rw[ei] at KB
  dsimp only [Option.isSome_some]
  generalize (setU t o.unit fun b=>{ b with title:=o.title })=R at HD ⊢
  obtain⟨oi,od,ok,ou,op,ob,ol,ot,om,oo,oa,on⟩:=o
  unfold Opn.agg
  clear h hG hT hb hC hbv ei
  dsimp only [Opn.cells] at KB HC HD ⊢
  go_enter Tryz.func94,Tryz.ntmps94
  go_wp2_with fail
  refine(KB.out _ ((Grew.refl w).alloc _)).mono ?_
  rintro e w1 ⟨rfl,g1⟩
  obtain⟨-,-,-,-,o7,-⟩:=HC.out w1 g1
  obtain⟨hd,hz,vz,hcz⟩:=HD.out w1 (((Grew.refl w).alloc _).trans g1)
  have HDD:=Lib.hid hd
  clear hd g1
  dsimp only
  go_wp2
  go_ret
  exact HDD.out
set_option maxHeartbeats 2000000 in
theorem edMark (h:EdB w0.heap.size E bv t w) (hG:Grew w0 w) (hT:TOk t) (o:Opn) :
  Calls Tryz.prog 95 #[.pointer (some ⟨E,0,none⟩),o.agg] w (MEnd w0 E (setU t o.unit fun b=>{ b with mark:=o.mark }) (if (brFind t.brs o.unit).isSome then(if usedB t o.mark o.unit then 19 else 0) else 7)):=by
 have hC:=fun W (hW:Grew (w.alloc (.cells o.cells.toArray 26)) W)=>opn_cells o hW
 have HC:=Lib.hid hC
 have HG:=Lib.hid hG
 cases hb:brFind t.brs o.unit with
 | none =>
  have KB:=Lib.hid (fun W (hW:Grew w W)=>edBranchNo (h.grew hW) hT.asc hT.len hb)
  dsimp only [Option.isSome_none]
  obtain⟨oi,od,ok,ou,op,ob,ol,ot,om,oo,oa,on⟩:=o
  unfold Opn.agg
  clear h hG hT hb hC
  dsimp only [Opn.cells] at KB HC ⊢
  go_enter Tryz.func95,Tryz.ntmps95
  go_wp2_with fail
  refine(KB.out _ ((Grew.refl w).alloc _)).mono ?_
  rintro e w1 ⟨rfl,g1⟩
  dsimp only
  go_wp2
  go_ret
  exact⟨rfl,HG.out.trans (((Grew.refl w).alloc _).trans g1),fun h=>by cases h⟩
 | some b =>
  obtain⟨i,hi,-,ei⟩:=find_at hb
  obtain⟨B,cap,hbv⟩:=h.at_ hi
  have KB:=Lib.hid (fun W (hW:Grew w W)=>edBranch (h.grew hW) hT.asc hT.len hi hbv)
  have KU:=Lib.hid (fun W (hW:Grew w W)=>edUsed (h.grew hW) hT o.mark o.unit)
  have HD:=Lib.hid (fun W (hW:Grew w W)=>fieldDone (h.grew hW) (hG.trans hW) hT hi (j:=4) (by omega) hbv (fun b=>{ b with mark:=o.mark }) (.string o.mark) (fun _=>rfl) rfl ei)
  rw[ei] at KB
  dsimp only [Option.isSome_some]
  generalize (setU t o.unit fun b=>{ b with mark:=o.mark })=R at HD ⊢
  generalize usedB t o.mark o.unit=q at KU ⊢
  obtain⟨oi,od,ok,ou,op,ob,ol,ot,om,oo,oa,on⟩:=o
  unfold Opn.agg
  clear h hG hT hb hC hbv ei
  dsimp only [Opn.cells] at KB KU HC HD ⊢
  cases q
  ·go_enter Tryz.func95,Tryz.ntmps95
   go_wp2_with fail
   refine(KB.out _ ((Grew.refl w).alloc _)).mono ?_
   rintro e w1 ⟨rfl,g1⟩
   obtain⟨o3,-,-,-,-,o8⟩:=HC.out w1 g1
   have HG1:=Lib.hid g1
   clear g1
   dsimp only
   go_wp2_with fail
   refine(KU.out _ (((Grew.refl w).alloc _).trans HG1.out)).mono ?_
   rintro e w2 ⟨rfl,g2⟩
   have p8:=keep_cell g2 o8
   obtain⟨hd,hz,vz,hcz⟩:=HD.out w2 ((((Grew.refl w).alloc _).trans HG1.out).trans g2)
   have HDD:=Lib.hid hd
   clear hd g2 o3 o8
   dsimp only
   go_wp2
   go_ret
   exact HDD.out
  ·go_enter Tryz.func95,Tryz.ntmps95
   go_wp2_with fail
   refine(KB.out _ ((Grew.refl w).alloc _)).mono ?_
   rintro e w1 ⟨rfl,g1⟩
   obtain⟨o3,-,-,-,-,o8⟩:=HC.out w1 g1
   have HG1:=Lib.hid g1
   clear g1
   dsimp only
   go_wp2_with fail
   refine(KU.out _ (((Grew.refl w).alloc _).trans HG1.out)).mono ?_
   rintro e w2 ⟨rfl,g2⟩
   have HG2:=Lib.hid (HG.out.trans ((((Grew.refl w).alloc _).trans HG1.out).trans g2))
   clear g2 o3 o8
   dsimp only
   go_wp2
   go_ret
   exact⟨rfl,HG2.out,fun h=>by cases h⟩
end
end Go.Proofs.YtdochkemaiokfaaGreat
/- slices.Delete of one branch, on a row of the call's own; all other blocks are as they were. No condition but the sizes that a slice can have. -/
namespace Go.Proofs.YtdochkemaiokfaaGreat
open Go.RowKit
theorem own_stretch {w:World} {base:Nat} {e:TypeId} {k g m n cap:Nat} {xs:List Value} (h:w.ownsRow base e k (.slice (some ⟨g,0,none⟩) m cap) m xs) (hmn:m≤n) (hn:n≤cap):∃ ds,w.ownsRow base e k (.slice (some ⟨g,0,none⟩) n cap) n ds∧ds.take (m*k)=xs:=by
 obtain⟨hl,h2⟩:=h
 rcases h2 with ⟨h3,_⟩|⟨g',cap',cur,hv,hb,hh,hnc,hcm,hcs,htk⟩
 ·cases h3
 ·injection hv with hA _ hc
  injection hA with hA
  injection hA with hA _ _
  subst hA hc
  have hmk:m*k≤n*k:=Nat.mul_le_mul_right k hmn
  have hnk:n*k≤cap*k:=Nat.mul_le_mul_right k hn
  refine⟨cur.toList.take (n*k),⟨?_,.inr ⟨g,cap,cur,rfl,hb,hh,hn,hcm,hcs,rfl⟩⟩,?_⟩
  ·rw[List.length_take,Array.length_toList,hcs]
   omega
  ·rw[List.take_take,Nat.min_eq_left hmk]
   exact htk
theorem delDone {w0 w2:World} {base g cap N k:Nat} {e:TypeId} {xs ds ds2:List Value} (hds:ds.take (N*k)=xs) (h3:w2.ownsRow base e k (.slice (some ⟨g,0,none⟩) (N+1) cap) (N+1) ds2) (hd:∀ t,t<N*k→ds2[t]? = ds[t]?) (hg:w0.grownBy w2 (some g)) :
  w2.ownsRow base e k (.slice (some ⟨g,0,none⟩) N cap) N xs∧w0.grownBy w2 (some g):=by
 have h4:=own_cut h3 N (Nat.le_succ _)
 have:ds2.take (N*k)=xs:=by
  rw[← hds]
  apply List.ext_getElem?
  intro t
  rw[List.getElem?_take,List.getElem?_take]
  split
  ·next ht=>exact hd t ht
  ·rfl
 rw[this] at h4
 exact⟨h4,hg⟩
set_option maxHeartbeats 4000000 in
set_option maxRecDepth 100000 in
theorem deleteB (base:Nat) (cs:List BrC) (i:Nat) (hi:i<cs.length) (v:Value) (w:World) (hown:w.ownsRow base 66 6 v cs.length (cs.flatMap BrC.cells)) (hone:∀ c∈cs,c.kv.oneCell'=true) (hl:cs.length≤1000000) :
  Calls Tryz.prog 138 #[v,.int .i64 i,.int .i64 ((i:Int)+1)] w fun e w'=>∃ v',e=.returned v'∧w'.ownsRow base 66 6 v' (cs.eraseIdx i).length ((cs.eraseIdx i).flatMap BrC.cells)∧w.grownBy w' v.ownBlock∧v'.ownBlock=v.ownBlock:=by
 obtain⟨g,cap,rfl,hbg,hglt,hcap⟩:=own_form hown (by omega)
 have hcm:cap≤maxLen:=own_max hown
 unfold maxLen at hcm
 obtain⟨i0,hi0,hz0,hz1,hz2⟩:=info_parts cinfoB
 obtain⟨N,hN⟩:∃ N,cs.length=N+1:=⟨cs.length-1,by omega⟩
 have hfl:=flatMap_len BrC.cells 6 (fun _=>rfl) cs
 obtain⟨ht,hd⟩:=flat_take (f:=BrC.cells) (k:=6) (fun _=>rfl) cs i
 obtain⟨-,hd1⟩:=flat_take (f:=BrC.cells) (k:=6) (fun _=>rfl) cs (i+1)
 have hcut:=own_cut hown i (by omega)
 have hE:(cs.eraseIdx i).flatMap BrC.cells=(cs.flatMap BrC.cells).take (i*6)++(cs.flatMap BrC.cells).drop ((i+1)*6):=by
  rw[List.eraseIdx_eq_take_drop_succ,List.flatMap_append,ht,hd1]
 have hEl:(cs.eraseIdx i).length=N:=by rw[List.length_eraseIdx_of_lt hi,hN];omega
 have hnl:((cs.flatMap BrC.cells).drop ((i+1)*6)).length=(N-i)*6:=by rw[List.length_drop,hfl,hN,← Nat.sub_mul];congr 1;omega
 -- the append
 have happ:∀ a:Addr,(0<N-i→a=⟨g,(i+1)*6,none⟩)→∃ w',(∀ ty,(Builtin.append_ #[41,41] ty #[.slice (some ⟨g,0,none⟩) i cap,.slice (some a) (N-i) (cap-(i+1))]).run Tryz.prog w.drew=.ok (.slice (some ⟨g,0,none⟩) N cap) w')∧w'.ownsRow base 66 6 (.slice (some ⟨g,0,none⟩) N cap) N ((cs.eraseIdx i).flatMap BrC.cells)∧w.grownBy w' (some g):=by
  intro a ha
  obtain⟨w',h1,h2,h3⟩:=run_append_fits (P:=Tryz.prog) w.drew base 41 0 66 i0 6 Tryz.underlying41 hi0 hz1 g i cap _ hcut a (N-i) (cap-(i+1)) ((cs.flatMap BrC.cells).drop ((i+1)*6)) hnl (fun j u hj=>by
   have hpos:0<N-i:=by
    have:=(List.getElem?_eq_some_iff.1 hj).1
    omega
   rw[ha hpos,add_lit]
   have hc:=hown.cellAt ((i+1)*6+j) (by have:=(List.getElem?_eq_some_iff.1 hj).1;omega)
   show w.cell? _=_
   rw[hc,← List.getElem?_drop]
   exact hj) (fun u hu=>one_cellsB cs hone u (List.mem_of_mem_drop hu)) (by omega)
  rw[show i+(N-i)=N by omega] at h1 h2
  refine⟨w',fun ty=>h1,?_,⟨h3.os,h3.tape,h3.output,h3.size,h3.block⟩⟩
  rw[hE]
  exact h2
 rw[hEl]
 generalize (cs.eraseIdx i).flatMap BrC.cells=XS at happ ⊢
 rw[hN] at hcap hi hown ⊢
 clear hfl ht hd hd1 hE hEl hnl hown hcut hone hl hN
 have hiz:(i:Int)≤((N+1:Nat):Int):=by omega
 have hi1:((i:Int)+1)≤((N+1:Nat):Int):=by omega
 have h0z:(0:Int)≤(i:Int):=by omega
 have h1z:(0:Int)≤(i:Int)+1:=by omega
 have hiz2:(i:Int)≤(i:Int)+1:=by omega
 have hne:((i:Int) == (i:Int)+1)=false:=beq_eq_false_iff_ne.2 (by omega)
 have htn:((i:Int)+1).toNat=i+1:=by omega
 have hi2:i≤N+1:=by omega
 have hi3:i+1≤N+1:=by omega
 have hi4:i≤N:=by omega
 have hi5:i≤cap:=by omega
 have hsub:N+1-(i+1)=N-i:=by omega
 by_cases hcc:cap=i+1
 ·obtain⟨w1,hrun,ho1,hg1⟩:=happ ⟨g,0,none⟩ (by omega)
  obtain rfl:N=i:=by omega
  subst hcc
  simp only [Nat.sub_self] at hrun
  clear happ
  go_enter Tryz.func138,Tryz.ntmps138
  go_wp2_with fail
  refine region_still_tail 6 (by kernel_rfl) (by kernel_rfl) ?_
  simp only [List.take_succ_cons,List.take_zero,List.drop_succ_cons,List.drop_zero]
  iterate 6 still_step
  refine wpStill_nil ?_
  refine Lib.wpList_append_run _ rfl _ _ _ _ rfl _ _ rfl rfl _ _ (hrun _) ?_
  obtain⟨ds,ho2,hds⟩:=own_stretch ho1 (Nat.le_succ _) (Nat.le_refl _)
  obtain⟨w2,ds2,hclr,ho3,hg3,hd3⟩:=run_clear_own (P:=Tryz.prog) w1 41 66 0 (.agg #[.int .i64 0,.int .i64 0,.int .i64 0,.string ⟨#[]⟩,.string ⟨#[]⟩,.slice none 0 0]) 6 Tryz.underlying41 Tryz.zeroValue66 rfl (by omega) (by simp[Value.cells,Value.oneCell']) ho2 N ((N+1)-N) (Nat.lt_succ_self _)
  have hclr':∀ ty,(Builtin.clear_ #[41] ty #[.slice (some ⟨g,N*6,none⟩) 1 1]).run Tryz.prog w1=.ok (.tuple #[]) w2:=fun _=>by
   have h:=hclr
   rw[show N+1-N=1 by omega] at h
   exact h
  have HFIN:=Lib.hid (delDone hds ho3 (fun t ht=>hd3 t ht) (hg1.trans hg3))
  have hnz:(0:Int)≤(N:Int):=by omega
  have hnz1:(N:Int)≤((N+1:Nat):Int):=by omega
  have hnn:¬ (N+1)=N:=by omega
  have hsb:N+1-N=1:=by omega
  clear ho1 hg1 hrun ho2 hds hclr ho3 hg3 hd3
  go_wp2
  go_ret
  exact⟨_,rfl,HFIN.out.1,HFIN.out.2,rfl⟩
 ·obtain⟨w1,hrun,ho1,hg1⟩:=happ ⟨g,(i+1)*6,none⟩ (fun _=>rfl)
  clear happ
  go_enter Tryz.func138,Tryz.ntmps138
  go_wp2_with fail
  refine region_still_tail 6 (by kernel_rfl) (by kernel_rfl) ?_
  simp only [List.take_succ_cons,List.take_zero,List.drop_succ_cons,List.drop_zero]
  iterate 6 still_step
  refine wpStill_nil ?_
  refine Lib.wpList_append_run _ rfl _ _ _ _ rfl _ _ rfl rfl _ _ (hrun _) ?_
  obtain⟨ds,ho2,hds⟩:=own_stretch ho1 (Nat.le_succ _) hcap
  obtain⟨w2,ds2,hclr,ho3,hg3,hd3⟩:=run_clear_own (P:=Tryz.prog) w1 41 66 0 (.agg #[.int .i64 0,.int .i64 0,.int .i64 0,.string ⟨#[]⟩,.string ⟨#[]⟩,.slice none 0 0]) 6 Tryz.underlying41 Tryz.zeroValue66 rfl (by omega) (by simp[Value.cells,Value.oneCell']) ho2 N (cap-N) (Nat.lt_succ_self _)
  have hclr':∀ ty,(Builtin.clear_ #[41] ty #[.slice (some ⟨g,N*6,none⟩) 1 (cap-N)]).run Tryz.prog w1=.ok (.tuple #[]) w2:=fun _=>by
   have h:=hclr
   rw[show N+1-N=1 by omega] at h
   exact h
  have HFIN:=Lib.hid (delDone hds ho3 (fun t ht=>hd3 t ht) (hg1.trans hg3))
  have hnz:(0:Int)≤(N:Int):=by omega
  have hnz1:(N:Int)≤((N+1:Nat):Int):=by omega
  have hnn:¬ cap=N:=by omega
  have hsb:N+1-N=1:=by omega
  clear ho1 hg1 hrun ho2 hds hclr ho3 hg3 hd3
  go_wp2
  go_ret
  exact⟨_,rfl,HFIN.out.1,HFIN.out.2,rfl⟩
end Go.Proofs.YtdochkemaiokfaaGreat
/- The editor's remove, walked. The conditions: the tree is right; the lists are short. -/
namespace Go.Proofs.YtdochkemaiokfaaGreat
open Go.RowKit
theorem erase_filter {l:List Br} (h:idsAsc l) {i:Nat} (hi:i<l.length) {n:Int} (hn:l[i].id=n):l.eraseIdx i=l.filter fun c=>!(c.id == n):=by
 induction l generalizing i with
 | nil=>simp at hi
 | cons x r ih =>
  have h':=List.pairwise_cons.1 h
  cases i with
  | zero =>
   simp only [List.getElem_cons_zero] at hn
   rw[List.eraseIdx_cons_zero,List.filter_cons_of_neg (by simp[hn])]
   refine(List.filter_eq_self.2 fun y hy=>?_).symm
   have:=h'.1 y hy
   simp only [Bool.not_eq_true',beq_eq_false_iff_ne]
   omega
  | succ i =>
   simp only [List.getElem_cons_succ] at hn
   have hi':i<r.length:=by simpa using hi
   have:=h'.1 _ (List.getElem_mem hi')
   rw[List.eraseIdx_cons_succ,List.filter_cons_of_pos (by simp only [Bool.not_eq_true',beq_eq_false_iff_ne];omega),ih h'.2 hi' hn]
section
variable {base E:Nat} {rv bv v':Value} {cs:List BrC} {t:Tr} {w w1:World}
theorem Ed.erase (h:Ed base E rv bv cs t w) {i:Nat} (hi:i<cs.length) (hg:w.grownBy w1 bv.ownBlock) (hv:w1.ownsRow base 66 6 v' (cs.eraseIdx i).length ((cs.eraseIdx i).flatMap BrC.cells)) :
  Ed base E rv v' (cs.eraseIdx i) ⟨t.roots,t.brs.eraseIdx i⟩ (w1.setCell ⟨E,1,none⟩ v'):=by
 have hit:i<t.brs.length:=by have:=h.len;omega
 have hl:(cs.eraseIdx i).length=(t.brs.eraseIdx i).length:=by rw[List.length_eraseIdx_of_lt hi,List.length_eraseIdx_of_lt hit,h.len]
 refine h.setBrs hg (by rw[← hl];exact hv) hl (fun j hj hj'=>?_) ?_
 ·have key:∀ m (hm:m<cs.length) (hm':m<t.brs.length),cs[m]=t.brs[m].c cs[m].kv∧OwnI base w1 cs[m].kv t.brs[m].kids:=fun m hm hm' =>
   ⟨(h.each m hm hm').1,own_kept (h.each m hm hm').2 hg (fun g hr hk=>own_off (h.each m hm hm').2 h.brs ne_IB g hk hr)⟩
  rw[List.length_eraseIdx_of_lt hi] at hj
  rw[List.getElem_eraseIdx,List.getElem_eraseIdx]
  split
  ·exact key j _ _
  ·exact key (j+1) _ _
 ·refine List.Pairwise.sublist ?_ h.apart
  exact(List.Sublist.map _ (List.eraseIdx_sublist ..)).cons_cons _
end
theorem removeT_erase {t:Tr} {o:Opn} (h:idsAsc t.brs) {i:Nat} (hi:i<t.brs.length) (hn:t.brs[i].id=o.unit):⟨(setK t t.brs[i].parent (withoutF o.unit (childs t t.brs[i].parent))).roots,(setK t t.brs[i].parent (withoutF o.unit (childs t t.brs[i].parent))).brs.eraseIdx i⟩=removeT t o t.brs[i]:=by
 unfold removeT
 simp only [Tr.mk.injEq,true_and]
 have hl:(setK t t.brs[i].parent (withoutF o.unit (childs t t.brs[i].parent))).brs.length=t.brs.length:=by
  rw[setK_brs]
  split<;>simp
 have hc:=core_setK t t.brs[i].parent (withoutF o.unit (childs t t.brs[i].parent))
 have hia:=asc_core h hc.symm
 refine erase_filter hia (by omega) ?_
 have h1:((setK t t.brs[i].parent (withoutF o.unit (childs t t.brs[i].parent))).brs.map core)[i]? = (t.brs.map core)[i]?:=by rw[hc]
 rw[List.getElem?_map,List.getElem?_map,List.getElem?_eq_getElem (by omega),List.getElem?_eq_getElem hi] at h1
 have h2:=Option.some.inj h1
 have h3:=congrArg Br.id h2
 exact h3.trans hn
section
variable {w0:World} {E:Nat} {bv:Value} {t:Tr} {w:World}
theorem removeDone {w1 w2:World} {t1 R:Tr} {rv v':Value} {cs:List BrC} {i:Nat} (h:Ed w0.heap.size E rv bv cs t1 w1) (hi:i<cs.length) (hR:⟨t1.roots,t1.brs.eraseIdx i⟩=R) (hG:Grew w0 w1) (hg:w1.grownBy w2 bv.ownBlock) (hv:w2.ownsRow w0.heap.size 66 6 v' (cs.eraseIdx i).length ((cs.eraseIdx i).flatMap BrC.cells)) :
  MEnd w0 E R 0 (.returned (.int .i64 0)) (w2.setCell ⟨E,1,none⟩ v')∧w2.frozen? ⟨E,1,none⟩=false∧w2.cell? ⟨E,1,none⟩=some bv:=by
 have hbx:w2.heap[E]? = some (.cells #[rv,bv] 128 (0,0)):=heap_kept h.box hg (own_ne h.brs h.box ne_BE)
 refine⟨⟨rfl,(Below.grown hG hg hG.size (fun b e=>(h.brs.lt b e).1)).setCell (p:=⟨E,1,none⟩) h.le v',fun _=>⟨v',rv,cs.eraseIdx i,?_⟩⟩,by simp[World.frozen?,hbx],by simp[World.cell?,hbx]⟩
 rw[← hR]
 exact h.erase hi hg hv
set_option maxHeartbeats 4000000 in
theorem edRemove (h:EdB w0.heap.size E bv t w) (hG:Grew w0 w) (hT:TOk t) (o:Opn) (R:Tr) (hR:∀ u,brFind t.brs o.unit=some u→removeT t o u=R) :
  Calls Tryz.prog 96 #[.pointer (some ⟨E,0,none⟩),o.agg] w (MEnd w0 E R (faultR t o)):=by
 have hC:=fun W (hW:Grew (w.alloc (.cells o.cells.toArray 26)) W)=>opn_cells o hW
 have HC:=Lib.hid hC
 have HG:=Lib.hid hG
 have KF:=Lib.hid (fun W (hW:Grew w W)=>edFind (h.grew hW) hT.asc hT.len o.unit)
 unfold faultR
 cases hb:brFind t.brs o.unit with
 | none =>
  rw[hb] at KF
  dsimp only [Option.isSome_none] at KF ⊢
  obtain⟨oi,od,ok,ou,op,ob,ol,ot,om,oo,oa,on⟩:=o
  unfold Opn.agg
  clear h hG hT hb hC hR
  dsimp only [Opn.cells] at KF HC ⊢
  go_enter Tryz.func96,Tryz.ntmps96
  go_wp2_with fail
  refine(KF.out _ ((Grew.refl w).alloc _)).mono ?_
  rintro e w1 ⟨rfl,g1⟩
  dsimp only
  go_wp2
  go_ret
  exact⟨rfl,HG.out.trans (((Grew.refl w).alloc _).trans g1),fun h=>by cases h⟩
 | some b =>
  obtain⟨i,hi,eb,ei⟩:=find_at hb
  have hpos:=pos_at hT.asc hi
  rw[ei] at hpos
  rw[hb,hpos] at KF
  dsimp only [Option.isSome_some] at KF ⊢
  obtain⟨rv,cs,hE⟩:=h
  have hEB:EdB w0.heap.size E bv t w:=⟨rv,cs,hE⟩
  obtain⟨B,cap,hbv⟩:=hEB.at_ hi
  obtain⟨-,-,-,-,-,⟨kv,c5,hkv⟩,-,-,-⟩:=hE.at_ hi hbv
  have hcap:t.brs.length≤cap∧cap≤maxLen:=by
   have h1:=hE.brs
   rw[hbv] at h1
   obtain⟨g',cap',he,_,_,h3⟩:=own_form h1 (by omega)
   injection he with _ _ hc
   subst hc
   exact⟨h3,own_max h1⟩
  unfold maxLen at hcap
  obtain⟨hc1,hc2⟩:=hcap
  have hib:(i:Int)<(t.brs.length:Int):=by omega
  have h0z:(0:Int)≤(i:Int):=by omega
  have cb:=hE.cells.2.1
  rw[hbv] at cb
  obtain⟨Ak,ck,rfl,hlk,hck,-⟩:=hkv.open_
  unfold maxLen at hck
  rw[eb] at c5 hlk
  have C5:=Lib.hid c5
  have CB:=Lib.hid cb
  by_cases hk:b.kids=[]
  case neg =>
   rw[if_pos hk]
   have hkz:(0:Int)<(b.kids.length:Int):=by
    have:=List.length_pos_iff.2 hk
    omega
   obtain⟨oi,od,ok,ou,op,ob,ol,ot,om,oo,oa,on⟩:=o
   unfold Opn.agg
   generalize t.brs.length=n at hib hc1 CB
   clear hE hEB hG hT hb hC hR hi hbv c5 cb hkv eb ei hpos hk
   dsimp only [Opn.cells] at KF HC ⊢
   go_enter Tryz.func96,Tryz.ntmps96
   go_wp2_with fail
   refine(KF.out _ ((Grew.refl w).alloc _)).mono ?_
   rintro e w1 ⟨rfl,g1⟩
   have d5:=keep_cell (((Grew.refl w).alloc _).trans g1) C5.out
   have db:=keep_cell (((Grew.refl w).alloc _).trans g1) CB.out
   dsimp only
   go_wp2
   go_ret
   exact⟨rfl,HG.out.trans (((Grew.refl w).alloc _).trans g1),fun h=>by cases h⟩
  case pos =>
   rw[if_neg (fun h=>h hk)]
   have hkl:b.kids.length=0:=by rw[hk];rfl
   rw[hkl] at C5
   have hpar:t.brs[i].parent=0∨∃ c∈t.brs,c.id=t.brs[i].parent:=parent_there hT.sound (List.getElem_mem hi)
   have KT:=Lib.hid (fun W (hW:Grew w W)=>edTake (hEB.grew hW) (hG.trans hW) hT.asc hT.len hi hpar)
   have HREQ:=Lib.hid ((removeT_erase hT.asc hi ei).trans (show removeT t o t.brs[i]=R from by rw[eb];exact hR b hb))
   rw[ei] at KT
   have hcl:cs.length=t.brs.length:=hE.len
   have hl1:(setK t t.brs[i].parent (withoutF o.unit (childs t t.brs[i].parent))).brs.length=t.brs.length:=by
    rw[setK_brs]
    split<;>simp
   generalize setK t t.brs[i].parent (withoutF o.unit (childs t t.brs[i].parent))=t1 at KT HREQ hl1
   have HL1:=Lib.hid hl1
   have HTL:=Lib.hid hT.len
   have hbv2:=Lib.hid hbv
   obtain⟨oi,od,ok,ou,op,ob,ol,ot,om,oo,oa,on⟩:=o
   unfold Opn.agg
   have hi2:=hi
   generalize t.brs.length=n at hib hc1 CB HL1 HTL hbv2 hi2
   clear hE hEB hG hT hb hC hR hbv c5 cb hkv eb ei hpos hk hpar hcl hl1 hlk hkl hi
   dsimp only [Opn.cells] at KF HC KT ⊢
   go_enter Tryz.func96,Tryz.ntmps96
   go_wp2_with fail
   refine(KF.out _ ((Grew.refl w).alloc _)).mono ?_
   rintro e w1 ⟨rfl,g1⟩
   obtain⟨o3,-,-,-,-,-⟩:=HC.out w1 g1
   have HG1:=Lib.hid (((Grew.refl w).alloc _).trans g1)
   have d5:=keep_cell HG1.out C5.out
   have db:=keep_cell HG1.out CB.out
   clear g1
   dsimp only
   go_wp2_with fail
   refine(KT.out _ HG1.out).mono ?_
   rintro e w2 ⟨rfl,hE2,hG2⟩
   obtain⟨rv2,cs2,hE2⟩:=hE2
   have e1:=hE2.cells.2.1
   have hcs:cs2.length=n:=hE2.len.trans HL1.out
   have hdel:=deleteB w0.heap.size cs2 i (by omega) bv w2 (by rw[hE2.len];exact hE2.brs) hE2.one (by rw[hcs];exact HTL.out)
   have HE2:=Lib.hid hE2
   have HDEL:=Lib.hid hdel
   have HG2:=Lib.hid hG2
   have HCS:=Lib.hid hcs
   clear d5 db o3 hE2 hdel hG2 hcs
   rw[hbv2.out] at e1
   dsimp only
   go_wp2_with fail
   rw[← hbv2.out]
   refine HDEL.out.mono ?_
   rintro e w3 ⟨v3,rfl,own3,hgr3,-⟩
   obtain⟨A3,c3,rfl⟩:=own_slice own3
   obtain⟨hd,hz,hcz⟩:=removeDone HE2.out (by rw[HCS.out];exact hi2) HREQ.out HG2.out hgr3 own3
   have HDD:=Lib.hid hd
   clear hd own3 hgr3 e1
   dsimp only
   go_wp2
   go_ret
   exact HDD.out
end
end Go.Proofs.YtdochkemaiokfaaGreat
/- Creating a unit, step by step, plainly. No condition. -/
namespace Go.Proofs.YtdochkemaiokfaaGreat
open Go.RowKit
theorem tok_of {t:Tr} (h:SoundM t):TOk t:=by
 have hl:∀ {ks:List Int} {p:Int},KidsAre t.brs ks p→ks.length≤256:=by
  intro ks p hk
  have h1:=List.Nodup.length_le_of_subset (l₂:=t.brs.map Br.id) hk.1 (fun x hx=>by
   obtain⟨b,hb,_,e⟩:=(hk.2 x).1 hx
   exact List.mem_map.2 ⟨b,hb,e⟩)
  rw[List.length_map] at h1
  exact Nat.le_trans h1 h.len
 have h0:=h.len
 refine⟨h,⟨by omega,fun i hi=>?_⟩,?_⟩
 ·have:=hl (h.kids t.brs[i] (List.getElem_mem hi))
  omega
 ·have:=hl h.roots
  omega
theorem insB_at (b:Br):∀ l:List Br,insB b l=l.take (posF l b.id)++[b]++l.drop (posF l b.id)
 | []=>rfl
 | x::r=>by
  have ih:=insB_at b r
  unfold insB posF passes
  by_cases h:x.id<b.id
  ·have hp:decide (cmpId b.id x<0)=true:=by
    rw[decide_eq_true_eq,cmpId_lt]
    exact h
   rw[if_pos h,List.takeWhile_cons,if_pos hp,List.length_cons,List.take_succ_cons,List.drop_succ_cons,ih]
   rfl
  ·have hp:¬ decide (cmpId b.id x<0)=true:=by
    rw[decide_eq_true_eq,cmpId_lt]
    exact h
   rw[if_neg h,List.takeWhile_cons,if_neg hp]
   rfl
theorem pos_le (l:List Br) (id:Int):posF l id≤l.length:=by
 unfold posF passes
 exact(List.takeWhile_sublist _).length_le
def newBr (o:Opn):Br:=⟨o.unit,o.parent,o.level,o.title,o.mark,[]⟩
theorem create_childs {t:Tr} {o:Opn} (h:SoundM t) (hc:CanCreate t o):childs ⟨t.roots,insB (newBr o) t.brs⟩ o.parent=childs t o.parent∧(o.parent=0∨∃ b∈insB (newBr o) t.brs,b.id=o.parent)∧o.parent≠o.unit:=by
 have hu0:o.unit≠0:=unit_pos hc.unit
 have hp:=stands_there hc.stands
 have hne:o.parent≠o.unit:=by
  rcases hp with e|⟨b,hb,e⟩
  ·rw[e]
   exact fun e=>hu0 e.symm
  ·rw[← e]
   exact hc.new b hb
 refine⟨?_,?_,hne⟩
 ·rw[childs_insB h.asc (newBr o) hc.new hu0]
  exact if_neg hne
 ·rcases hp with e|⟨b,hb,e⟩
  ·exact .inl e
  ·exact .inr ⟨b,(mem_insB _ _ _).2 (.inr hb),e⟩
theorem create_eq {t:Tr} {o:Opn} (h:SoundM t) (hc:CanCreate t o):setK ⟨t.roots,insB (newBr o) t.brs⟩ o.parent (putF o.unit o.before (childs ⟨t.roots,insB (newBr o) t.brs⟩ o.parent))=createT t o:=by
 obtain⟨h1,-,hne⟩:=create_childs h hc
 rw[h1]
 unfold createT setK
 by_cases h0:o.parent=0
 ·rw[if_pos h0,if_pos h0]
  rfl
 ·rw[if_neg h0,if_neg h0]
  simp only [Tr.mk.injEq,true_and]
  have hg:∀ b:Br,(if b.id=o.parent then { b with kids:=putF o.unit o.before (childs t o.parent) } else b).id=b.id:=fun b=>by split<;>rfl
  rw[map_insB _ hg]
  have:(if (newBr o).id=o.parent then { newBr o with kids:=putF o.unit o.before (childs t o.parent) } else newBr o)=newBr o:=if_neg (fun e=>hne e.symm)
  rw[this]
  rfl
theorem create_asc {t:Tr} {o:Opn} (h:SoundM t) (hc:CanCreate t o):idsAsc (insB (newBr o) t.brs):=asc_insB (newBr o) t.brs h.asc hc.new
theorem create_put {t:Tr} {o:Opn} (h:SoundM t) (hc:CanCreate t o):(o.before=0→(0:Int)∉childs t o.parent)∧(o.before≠0→o.before∈childs t o.parent):=by
 refine⟨fun _ hm=>?_,hc.before⟩
 obtain⟨b,hb,_,e⟩:=(childs_mem h (stands_there hc.stands)).1 hm
 exact unit_pos (h.units b hb) e
end Go.Proofs.YtdochkemaiokfaaGreat
/- The editor's create, walked. The conditions: the tree is right; the lists are short; the library's own variables hold what they must. -/
namespace Go.Proofs.YtdochkemaiokfaaGreat
open Go.RowKit
open Classical in
noncomputable def resC (t:Tr) (o:Opn):Int:=if faultC t o≠0 then faultC t o else if RightT (createT t o) then 0 else 15
theorem resC_1 {t:Tr} {o:Opn} (h:(brFind t.brs o.unit).isSome=true):resC t o=6:=by
 have:faultC t o=6:=by unfold faultC;rw[if_pos h]
 unfold resC
 rw[this,if_pos (by decide)]
theorem resC_2 {t:Tr} {o:Opn} (h:(brFind t.brs o.unit).isSome=false) (h2:o.parent≠0∧(brFind t.brs o.parent).isSome=false):resC t o=7:=by
 have:faultC t o=7:=by unfold faultC;rw[if_neg (by simp[h]),if_pos h2]
 unfold resC
 rw[this,if_pos (by decide)]
theorem resC_3 {t:Tr} {o:Opn} (h:(brFind t.brs o.unit).isSome=false) (h2:¬ (o.parent≠0∧(brFind t.brs o.parent).isSome=false)) (h3:standsB t o.parent o.level=false):resC t o=18:=by
 have:faultC t o=18:=by unfold faultC;rw[if_neg (by simp[h]),if_neg h2,if_pos h3]
 unfold resC
 rw[this,if_pos (by decide)]
theorem resC_4 {t:Tr} {o:Opn} (h:(brFind t.brs o.unit).isSome=false) (h2:¬ (o.parent≠0∧(brFind t.brs o.parent).isSome=false)) (h3:standsB t o.parent o.level=true) (h4:o.before≠0∧o.before∉childs t o.parent):resC t o=7:=by
 have:faultC t o=7:=by unfold faultC;rw[if_neg (by simp[h]),if_neg h2,if_neg (by simp[h3]),if_pos h4]
 unfold resC
 rw[this,if_pos (by decide)]
theorem resC_5 {t:Tr} {o:Opn} (h:(brFind t.brs o.unit).isSome=false) (h2:¬ (o.parent≠0∧(brFind t.brs o.parent).isSome=false)) (h3:standsB t o.parent o.level=true) (h4:¬ (o.before≠0∧o.before∉childs t o.parent)) (h5:usedB t o.mark 0=true):resC t o=19:=by
 have:faultC t o=19:=by unfold faultC;rw[if_neg (by simp[h]),if_neg h2,if_neg (by simp[h3]),if_neg h4,if_pos h5]
 unfold resC
 rw[this,if_pos (by decide)]
theorem resC_6 {t:Tr} {o:Opn} (h:(brFind t.brs o.unit).isSome=false) (h2:¬ (o.parent≠0∧(brFind t.brs o.parent).isSome=false)) (h3:standsB t o.parent o.level=true) (h4:¬ (o.before≠0∧o.before∉childs t o.parent)) (h5:usedB t o.mark 0=false) (h6:256≤t.brs.length):resC t o=8:=by
 have:faultC t o=8:=by unfold faultC;rw[if_neg (by simp[h]),if_neg h2,if_neg (by simp[h3]),if_neg h4,if_neg (by simp[h5]),if_pos h6]
 unfold resC
 rw[this,if_pos (by decide)]
open Classical in
theorem resC_7 {t:Tr} {o:Opn} (h:(brFind t.brs o.unit).isSome=false) (h2:¬ (o.parent≠0∧(brFind t.brs o.parent).isSome=false)) (h3:standsB t o.parent o.level=true) (h4:¬ (o.before≠0∧o.before∉childs t o.parent)) (h5:usedB t o.mark 0=false) (h6:¬ 256≤t.brs.length):faultC t o=0∧resC t o=if RightT (createT t o) then 0 else 15:=by
 have:faultC t o=0:=by unfold faultC;rw[if_neg (by simp[h]),if_neg h2,if_neg (by simp[h3]),if_neg h4,if_neg (by simp[h5]),if_neg h6]
 refine⟨this,?_⟩
 unfold resC
 rw[this,if_neg (fun h=>h rfl)]
section
variable {w0:World} {E:Nat} {bv:Value} {t:Tr} {w:World}
theorem edBranchR {base:Nat} (h:EdB base E bv t w) (hT:TOk t) (id:Int):∃ A:Option Addr,A.isSome=(brFind t.brs id).isSome∧∀ W,Grew w W→Calls Tryz.prog 129 #[.pointer (some ⟨E,0,none⟩),.int .i64 id] W fun e w'=>e=.returned (.pointer A)∧Grew W w':=by
 cases hb:brFind t.brs id with
 | none=>exact⟨none,rfl,fun W hW=>edBranchNo (h.grew hW) hT.asc hT.len hb⟩
 | some b =>
  obtain⟨i,hi,-,ei⟩:=find_at hb
  obtain⟨B,cap,hbv⟩:=h.at_ hi
  refine⟨some ⟨B,i*6,none⟩,rfl,fun W hW=>?_⟩
  have:=edBranch (h.grew hW) hT.asc hT.len hi hbv
  rw[ei] at this
  exact this
theorem insertDone {w1 w2:World} {t1:Tr} {rv v':Value} {cs:List BrC} {k:Nat} {b:Br} (h:Ed w0.heap.size E rv bv cs t w1) (hk:k≤cs.length) (hb:b.kids=[]) (hR:⟨t.roots,t.brs.take k++[b]++t.brs.drop k⟩=t1) (hG:Grew w0 w1) (hg:w1.grownBy w2 bv.ownBlock)
  (hv:w2.ownsRow w0.heap.size 66 6 v' (cs.length+1) ((cs.take k++[b.c (.slice none 0 0)]++cs.drop k).flatMap BrC.cells)) :
  (∃ bv',EdB w0.heap.size E bv' t1 (w2.setCell ⟨E,1,none⟩ v'))∧Grew w0 (w2.setCell ⟨E,1,none⟩ v')∧w2.frozen? ⟨E,1,none⟩=false∧w2.cell? ⟨E,1,none⟩=some bv:=by
 have hbx:w2.heap[E]? = some (.cells #[rv,bv] 128 (0,0)):=heap_kept h.box hg (own_ne h.brs h.box ne_BE)
 refine⟨⟨v',rv,cs.take k++[b.c (.slice none 0 0)]++cs.drop k,?_⟩,(Below.grown hG hg hG.size (fun b e=>(h.brs.lt b e).1)).setCell (p:=⟨E,1,none⟩) h.le v',by simp[World.frozen?,hbx],by simp[World.cell?,hbx]⟩
 rw[← hR]
 have hlen:=h.len
 have hl:(cs.take k++[b.c (.slice none 0 0)]++cs.drop k).length=(t.brs.take k++[b]++t.brs.drop k).length:=by simp[hlen]
 have hl2:(t.brs.take k++[b]++t.brs.drop k).length=cs.length+1:=by simp only [List.length_append,List.length_take,List.length_drop,List.length_cons,List.length_nil];omega
 have key:∀ m (hm:m<cs.length) (hm':m<t.brs.length),cs[m]=t.brs[m].c cs[m].kv∧OwnI w0.heap.size w2 cs[m].kv t.brs[m].kids:=fun m hm hm' =>
  ⟨(h.each m hm hm').1,own_kept (h.each m hm hm').2 hg (fun g hr hk=>own_off (h.each m hm hm').2 h.brs ne_IB g hk hr)⟩
 refine h.setBrs hg (by rw[hl2];exact hv) hl (fun j hj hj'=>?_) ?_
 ·rw[hl,hl2] at hj
  rcases Nat.lt_trichotomy j k with hjk|hjk|hjk
  ·have e1:(cs.take k++[b.c (.slice none 0 0)]++cs.drop k)[j]? = cs[j]?:=by
    rw[List.append_assoc,List.getElem?_append_left (by rw[List.length_take];omega),List.getElem?_take,if_pos hjk]
   have e2:(t.brs.take k++[b]++t.brs.drop k)[j]? = t.brs[j]?:=by
    rw[List.append_assoc,List.getElem?_append_left (by rw[List.length_take];omega),List.getElem?_take,if_pos hjk]
   rw[List.getElem?_eq_getElem (by omega),List.getElem?_eq_getElem (by omega)] at e1 e2
   rw[Option.some.inj e1,Option.some.inj e2]
   exact key j (by omega) (by omega)
  ·subst hjk
   have e1:(cs.take j++[b.c (.slice none 0 0)]++cs.drop j)[j]? = some (b.c (.slice none 0 0)):=by
    rw[List.append_assoc,List.getElem?_append_right (by rw[List.length_take];omega),List.length_take,Nat.min_eq_left hk,Nat.sub_self]
    rfl
   have e2:(t.brs.take j++[b]++t.brs.drop j)[j]? = some b:=by
    rw[List.append_assoc,List.getElem?_append_right (by rw[List.length_take];omega),List.length_take,Nat.min_eq_left (by omega),Nat.sub_self]
    rfl
   rw[List.getElem?_eq_getElem (by omega)] at e1 e2
   rw[Option.some.inj e1,Option.some.inj e2]
   refine⟨rfl,?_⟩
   show OwnI w0.heap.size w2 (.slice none 0 0) b.kids
   rw[hb]
   exact World.ownsRow_nil _ _ _ _
  ·have e1:(cs.take k++[b.c (.slice none 0 0)]++cs.drop k)[j]? = cs[j-1]?:=by
    rw[List.getElem?_append_right (by simp;omega),List.getElem?_drop]
    congr 1
    simp only [List.length_append,List.length_take,List.length_cons,List.length_nil]
    omega
   have e2:(t.brs.take k++[b]++t.brs.drop k)[j]? = t.brs[j-1]?:=by
    rw[List.getElem?_append_right (by simp;omega),List.getElem?_drop]
    congr 1
    simp only [List.length_append,List.length_take,List.length_cons,List.length_nil]
    omega
   rw[List.getElem?_eq_getElem (by omega),List.getElem?_eq_getElem (by omega)] at e1 e2
   rw[Option.some.inj e1,Option.some.inj e2]
   exact key (j-1) (by omega) (by omega)
 ·obtain⟨h1,h2⟩:=List.pairwise_cons.1 h.apart
  have hmap:(cs.take k++[b.c (.slice none 0 0)]++cs.drop k).map BrC.kv=(cs.map BrC.kv).take k++[.slice none 0 0]++(cs.map BrC.kv).drop k:=by
   simp[List.map_take,List.map_drop,Br.c]
  rw[hmap]
  have hsplit:(cs.map BrC.kv)=(cs.map BrC.kv).take k++(cs.map BrC.kv).drop k:=(List.take_append_drop _ _).symm
  have hnone:∀ g,Value.ownBlock (.slice none 0 0)≠some g:=fun g e=>by simp[Value.ownBlock] at e
  refine List.pairwise_cons.2 ⟨fun v hv g hg'=>?_,?_⟩
  ·simp only [List.mem_append,List.mem_singleton] at hv
   rcases hv with (hv|hv)|hv
   ·exact h1 v (List.mem_of_mem_take hv) g hg'
   ·rw[hv];exact hnone g
   ·exact h1 v (List.mem_of_mem_drop hv) g hg'
  ·rw[hsplit] at h2
   obtain⟨p1,p2,p3⟩:=List.pairwise_append.1 h2
   refine List.pairwise_append.2 ⟨List.pairwise_append.2 ⟨p1,List.pairwise_singleton _ _,fun a _ c hc g _=>?_⟩,p2,fun a ha c hc g hga=>?_⟩
   ·rw[List.mem_singleton.1 hc];exact hnone g
   ·rcases List.mem_append.1 ha with ha|ha
    ·exact p3 a ha c hc g hga
    ·rw[List.mem_singleton.1 ha] at hga
     exact absurd hga (hnone g)
end
end Go.Proofs.YtdochkemaiokfaaGreat