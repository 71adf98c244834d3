/- Lemmas on what the functions of the program and of the library compute: Es2, Es10, Es3, RA1, RE1, App4, Bk1. The conditions stand at each. -/
import Derived.Test.YtafncfomiolmgaaGreatDoorQ7
import Derived.Deep.CutRange
import Derived.Deep.RegionHeld3
import Derived.Test.YtafncfomiolmgaaGreatDoorQ3
import Derived.Test.YtafncfomiolmgaaGreatDoorQ4
import Derived.Test.YtafncfomiolmgaaGreatDoorQ1
import Derived.Test.YtafncfomiolmgaaGreatDoorQ2
import Derived.Test.YtafncfomiolmgaaGreatDoorQ5
namespace Go.Proofs.YtafncfomiolmgaaGreatDoor
open Go.RowKit
set_option maxRecDepth 100000 in
theorem c_40 {p:Prop} (h:p:=by
 dsimp only
 go_wp2_with fail
 refine HIX.out.mono ?_
 rintro e w2 ⟨rfl,rfl⟩
 dsimp only
 go_wp2_with fail
 refine HINS.out.mono ?_
 rintro e w3 ⟨v3,rfl,own3,hgr3,hat3⟩
 obtain⟨A3,d3,rfl⟩:=own_slice own3
 have HFIN:=uZ (putDone (R:=R) HKAT.out (by rw[← HR.out,hL,HL2.out]) HG1.out own3 hgr3 hat3)
 have hgr:=(World.grownBy_alloc w1 (.cells #[.int .i64 n] 3) (Value.ownBlock (.slice Ak L.length ck))).trans hgr3
 have c3:=hgr.cell c1 (fun e=>HKAT.out.off e.symm)
 have f3:=(World.frozen?_of_block (a:=⟨ab,ao,none⟩) (hgr.block ab HKAT.out.lt (fun e=>HKAT.out.off e.symm))).trans HKAT.out.frz
 clear own3 hgr3 hat3 hgr
 dsimp only
 go_wp2
 go_end0
 exact⟨rfl,by rw[HR.out];exact HFIN.out⟩):p:=h
theorem putF_idx (n before:Int):∀(ks:List Int),(before=0→(0:Int)∉ks)→(before≠0→before∈ks)→∃ k,k≤ks.length∧putF n before ks=ks.take k++[n]++ks.drop k∧((idxP (fun y=>before == y) ks=(k:Int))∨(idxP (fun y=>before == y) ks=-1∧k=ks.length)):=by
 intro ks h1 h2
 by_cases h0:before=0
 ·subst h0
  refine⟨ks.length,Nat.le_refl _,?_,.inr ⟨idxP_miss _ _ (fun i hi=>?_),rfl⟩⟩
  ·rw[List.take_length,List.drop_length,List.append_nil]
   have:=h1 rfl
   clear h1 h2
   induction ks with
   | nil=>rfl
   | cons x r ih =>
    have hx:x≠0:=fun e=>this (by rw[e];simp)
    unfold putF
    rw[if_neg hx,ih (fun hm=>this (List.mem_cons_of_mem _ hm))]
    rfl
  ·have hm:=List.getElem_mem hi
   simp only [beq_eq_false_iff_ne]
   exact fun e=>h1 rfl (by rw[e];exact hm)
 ·have hm:=h2 h0
  clear h1 h2
  have key:∀ ks:List Int,before∈ks→∃ k,∃ hk:k<ks.length,ks[k]=before∧(∀ i (hi:i<ks.length),i<k→ks[i]≠before)∧putF n before ks=ks.take k++[n]++ks.drop k:=by
   intro ks
   induction ks with
   | nil=>intro h;cases h
   | cons x r ih =>
    intro h
    by_cases hx:x=before
    ·refine⟨0,by simp,by simpa using hx,fun i _ hi=>absurd hi (Nat.not_lt_zero _),?_⟩
     unfold putF
     rw[if_pos hx]
     rfl
    ·have hr:before∈r:=by
      rcases List.mem_cons.1 h with e|h
      ·exact absurd e.symm hx
      ·exact h
     obtain⟨k,hk,e1,e2,e3⟩:=ih hr
     refine⟨k+1,Nat.succ_lt_succ hk,by simpa using e1,fun i hi hik=>?_,?_⟩
     ·cases i with
      | zero=>exact hx
      | succ i=>exact e2 i (Nat.lt_of_succ_lt_succ hi) b_37
     ·unfold putF
      rw[if_neg hx,e3]
      rfl
  obtain⟨k,hk,e1,e2,e3⟩:=key ks hm
  refine⟨k,by omega,e3,.inl (idxP_hit _ _ k hk (by rw[e1];simp) (fun i hi hik=>?_))⟩
  simp only [beq_eq_false_iff_ne]
  exact fun e=>e2 i hi hik e.symm
section
variable {w0:World} {E:Nat} {bv:Value} {t:Tr} {w:World}
theorem putDone {w1 w3:World} {p:Int} {ab ao:Nat} {kv v3:Value} {L:List Int} {n:Int} {k:Nat} {R:Tr} (h:KAt w0.heap.size E bv t p ⟨ab,ao,none⟩ kv w1) (hR:setK t p (L.take k++[n]++L.drop k)=R) (hG:Grew w0 w1) (own:w3.ownsRow w0.heap.size 3 1 v3 (L.length+1) ((L.take k++[n]++L.drop k).flatMap oneI))
  (hg:(w1.alloc (.cells #[.int .i64 n] 3)).grownBy w3 kv.ownBlock) (hat:v3.ownBlock=kv.ownBlock∨∀ b,v3.ownBlock=some b→(w1.alloc (.cells #[.int .i64 n] 3)).heap.size≤b):EdB w0.heap.size E bv R (w3.setCell ⟨ab,ao,none⟩ v3)∧Grew w0 (w3.setCell ⟨ab,ao,none⟩ v3):=by
 have hgr:=(World.grownBy_alloc w1 (.cells #[.int .i64 n] 3) kv.ownBlock).trans hg
 have hl:(L.take k++[n]++L.drop k).length=L.length+1:=by
  simp only [List.length_append,List.length_take,List.length_drop,List.length_cons,List.length_nil]
  omega
 refine⟨?_,?_⟩
 ·rw[← hR]
  refine h.back w3 v3 _ hgr ?_ (hat.imp_right fun hb b e=>by have:=hb b e;simp at this;omega)
  unfold OwnI
  rw[hl]
  exact own
 ·exact(Below.grown hG hgr hG.size (fun b e=>(h.own.lt b e).1)).setCell (p:=⟨ab,ao,none⟩) h.lo v3
set_option maxHeartbeats 4000000 in
theorem edPut (h:EdB w0.heap.size E bv t w) (hG:Grew w0 w) (hasc:idsAsc t.brs) (hlen:t.brs.length≤1000000) {p:Int} (hp:p=0∨∃ b∈t.brs,b.id=p) (n before:Int) (h1:before=0→(0:Int)∉childs t p) (h2:before≠0→before∈childs t p) (hkl:(childs t p).length≤1000000) :
  Calls Tryz.prog 92 #[.pointer (some ⟨E,0,none⟩),.int .i64 n,.int .i64 p,.int .i64 before] w fun e w'=>e=.returned (.tuple #[])∧EdB w0.heap.size E bv (setK t p (putF n before (childs t p))) w'∧Grew w0 w':=by
 have K:=uZ (edKids h hasc hlen hp)
 obtain⟨k,hk,hput,hidx⟩:=putF_idx n before (childs t p) h1 h2
 have HL2:=uZ hput
 have HKL:=uZ hkl
 have HG:=uZ hG
 clear h hG hasc hlen hp h1 h2 hput hkl
 go_enter Tryz.func92,Tryz.ntmps92
 go_wp2_with fail
 refine K.out.mono ?_
 rintro e w1 ⟨ab,ao,kv,rfl,hkat,g1⟩
 have c1:=hkat.cell
 have HKAT:=uZ hkat
 have HG1:=uZ (HG.out.trans g1)
 have hix:=indexI (childs t p) before kv w1 (Rd.of_own hkat.own)
 have hins:=fun(hi:k≤(childs t p).length)=>insertI w0 (childs t p) n k w1.heap.size kv (w1.alloc (.cells #[.int .i64 n] 3)) (hkat.own.alloc _) (HG1.out.alloc _) hi HKL.out (World.alloc_heap_new w1 _) (fun e=>by
  have:=(hkat.own.lt _ e.symm).2
  omega)
 have hbk:=fun w2 v' ks' h1 h2 h3=>hkat.back w2 v' ks' h1 h2 h3
 obtain⟨Ak,ck,rfl⟩:=own_slice hkat.own
 have HIX:=uZ hix
 have HINS:=uZ (hins hk)
 clear g1 hkat hix hins hbk
 have hlz:(0:Int)≤((childs t p).length:Int):=by omega
 have hkz:(0:Int)≤(k:Int):=by omega
 generalize hR:setK t p (putF n before (childs t p))=R at ⊢
 have HR:=uZ hR
 clear hR
 generalize hL:childs t p=L at HKAT HIX HINS HKL hk hidx c1 hlz HL2
 rcases hidx with hidx|⟨hidx,hke⟩
 ·rw[hidx] at HIX
  have hkn:¬ (k:Int)<0:=by omega
  exact c_40
 ·rw[hidx] at HIX
  subst hke
  exact c_40
end
end Go.Proofs.YtafncfomiolmgaaGreatDoor
namespace Go.Proofs.YtafncfomiolmgaaGreatDoor
open Go.RowKit
theorem uK {a b:World} (g:Grew a b) {X:Nat} {o:Obj} (h:a.heap[X]? = some o):b.heap[X]? = some o:=by
 rw[g.block X (Array.getElem?_eq_some_iff.1 h).1]
 exact h
theorem heap_allocE {a:World} {X:Nat} {p:Obj} (h:X=a.heap.size):(a.alloc p).heap[X]? = some p:=by
 subst h
 exact(MapKept.heap_alloc a p).1
theorem heldQ (w1 W:World) {p q:Addr} {x y:Value} (h:w1.cell? p=some x) (h2:w1.cell? q=some y) (g:Grew w1 W):W.cell? p=some x∧W.cell? q=some y∧Grew w1 W:=⟨uQ g h,uQ g h2,g⟩
theorem heldQ2 (w1 W:World) {p q:Addr} {x y:Value} (h:w1.cell? p=some x) (h2:w1.cell? q=some y) (g:Grew w1 W):W.cell? p=some x∧W.cell? q=some y:=⟨uQ g h,uQ g h2⟩
theorem heldQ3 (W:World) (a:Addr) (u:Value) {p q:Addr} {x y:Value} (hp:p.block≠a.block) (hq:q.block≠a.block) (h:W.cell? p=some x) (h2:W.cell? q=some y):(W.setCell a u).cell? p=some x∧(W.setCell a u).cell? q=some y:=⟨by
 rw[uV _ _ _ _ (fun e=>hp (by rw[e]))]
 exact h,by
 rw[uV _ _ _ _ (fun e=>hq (by rw[e]))]
 exact h2⟩
theorem new_frz {w W:World} {cs:List Value} {t:TypeId} (h:Grew (w.alloc (.cells cs.toArray t)) W) (j:Nat):W.frozen? ⟨w.heap.size,j,none⟩=false:=(h.frozen (p:=⟨w.heap.size,j,none⟩) b_38).trans b_38
def EditCut (w:World) (t:Tr) (cs:List BrC) (s:Value) (W:World):Prop:=∃ X rv bv,s=.pointer (some ⟨X,0,none⟩)∧W.heap[X]? = some (.cells #[rv,bv] 35 (0,0))∧OwnI w.heap.size W rv t.roots∧W.ownsRow w.heap.size 53 6 bv cs.length (cs.flatMap BrC.cells)∧Grew w W∧w.heap.size≤X
theorem ne_IT:(3:Nat)≠35:=by decide
theorem ne_BT:(53:Nat)≠35:=by decide
theorem edit_meet {w W W1 W2:World} {t:Tr} {cs:List BrC} {X:Nat} {a b v1 v2:Value} (hX:W.heap[X]? = some (.cells #[a,b] 35 (0,0))) (hlo:w.heap.size≤X) (hG:Grew w W) (h1:OwnI w.heap.size W1 v1 t.roots) (g1:Grew W1 W)
  (h2:W2.ownsRow w.heap.size 53 6 v2 cs.length (cs.flatMap BrC.cells)) (g2:Grew W2 W):EditCut w t cs (.pointer (some ⟨X,0,none⟩)) ((W.setCell ⟨X,0,none⟩ v1).setCell ⟨X,1,none⟩ v2):=by
 have hX1:(W.setCell ⟨X,0,none⟩ v1).heap[X]? = some (.cells #[v1,b] 35 (0,0)):=by
  have:=heap_setCell_same W X 0 #[a,b] 35 v1 hX
  simpa using this
 have hX2:((W.setCell ⟨X,0,none⟩ v1).setCell ⟨X,1,none⟩ v2).heap[X]? = some (.cells #[v1,v2] 35 (0,0)):=by
  have:=heap_setCell_same (W.setCell ⟨X,0,none⟩ v1) X 1 #[v1,b] 35 v2 hX1
  simpa using this
 have h1W:=own_later h1 g1
 have h2W:=own_later h2 g2
 have h1a:=ownsRow_setCell_other (a:=⟨X,0,none⟩) h1W (own_ne (g:=X) h1W hX ne_IT) v1
 have h2a:=ownsRow_setCell_other (a:=⟨X,0,none⟩) h2W (own_ne (g:=X) h2W hX ne_BT) v1
 exact⟨X,v1,v2,rfl,hX2,ownsRow_setCell_other (a:=⟨X,1,none⟩) h1a (own_ne (g:=X) h1a hX1 ne_IT) _,ownsRow_setCell_other (a:=⟨X,1,none⟩) h2a (own_ne (g:=X) h2a hX1 ne_BT) _,(hG.setCell hlo _).setCell hlo _,hlo⟩
theorem edit_meet2 {w W W1 W2:World} {t:Tr} {cs:List BrC} {v1 v2:Value} (hG:Grew w W) (h1:OwnI w.heap.size W1 v1 t.roots) (g1:Grew W1 W)
  (h2:W2.ownsRow w.heap.size 53 6 v2 cs.length (cs.flatMap BrC.cells)) (g2:Grew W2 W):EditCut w t cs (.pointer (some ⟨W.heap.size,0,none⟩)) (W.alloc (.cells #[v1,v2] 35)) :=
 ⟨_,v1,v2,rfl,heap_allocE rfl,own_later h1 (g1.alloc _),own_later h2 (g2.alloc _),hG.alloc _,hG.size⟩
def RoundCut (w:World) (rv bv:Value) (cs:List BrC) (t:Tr) (k X:Nat) (W:World):Prop:=∃ cs',Half w rv bv cs' t (k+1) W∧cs'.length=cs.length∧W.heap[X]? = some (.cells #[rv,bv] 35 (0,0))∧Grew w W
theorem round_meet {w w1 W:World} {rv v':Value} {cs:List BrC} {t:Tr} {k X B cap:Nat} (h:Half w rv (.slice (some ⟨B,0,none⟩) t.brs.length cap) cs t k w1) (hk:k<t.brs.length) (hG:Grew w w1) (hg:Grew w1 W) (hv:OwnI w1.heap.size W v' t.brs[k].kids)
  (hX:w1.heap[X]? = some (.cells #[rv,.slice (some ⟨B,0,none⟩) t.brs.length cap] 35 (0,0))):RoundCut w rv (.slice (some ⟨B,0,none⟩) t.brs.length cap) cs t k X (W.setCell ⟨B,k*6+5,none⟩ v'):=by
 have hne:X≠B:=by
  intro e
  subst e
  obtain⟨c,hc⟩:=own_ty h.brs (g:=X) rfl
  rw[hX] at hc
  injection hc with hc
  injection hc with _ hc _
  exact ne_BT hc.symm
 refine⟨_,h.step hk hG hg hv rfl,by simp,heap_set _ _ (uK hg hX) hne,?_⟩
 exact(hG.trans hg).setCell (h.brs.lt B rfl).1 _
set_option maxHeartbeats 4000000 in
set_option maxRecDepth 100000 in
theorem rEdit (t:Tr) (rv bv:Value) (w:World) (hr:SlI w rv t.roots) (hv:SlBr w bv t.brs) (hf:FewBr t.brs) (hrl:t.roots.length≤1000000) :
  Calls Tryz.prog 53 #[.agg #[rv,bv]] w fun e w'=>∃ E bv',e=.returned (.pointer (some ⟨E,0,none⟩))∧EdB w.heap.size E bv' t w'∧Grew w w':=by
 obtain⟨cs,hB,hcl,hok⟩:=hv
 have h1c:∀ c∈cs,c.kv.oneCell'=true:=by
  intro c hc
  obtain⟨i,hi,rfl⟩:=List.mem_iff_getElem.1 hc
  exact slI_one (hok i hi b_37).2
 have hfl:=hf.1
 have KR:=uZ (fun W (hW:Grew w W)=>cloneI t.roots rv W (hr.mono hW) b_37)
 have KB:=uZ (fun W (hW:Grew w W)=>cloneB cs bv W (hB.mono hW) h1c b_37)
 have HOK:=uZ hok
 have HFK:=uZ (fun k (hk:k<t.brs.length)=>hf.2 k hk)
 obtain⟨Ar,cr,rfl,-⟩:=SlI.open_ hr
 obtain⟨Ab,cb,hbv,-⟩:=SlB.open_ hB
 rw[hcl] at hbv
 subst hbv
 have HCL:=uZ hcl
 clear hr hB h1c hok hf hrl hcl
 have b0:=yQ (uX (w.alloc (.cells #[.slice Ar t.roots.length cr,.slice Ab t.brs.length cb] 35))) 0 _ rfl
 have b1:=yQ (uX (w.alloc (.cells #[.slice Ar t.roots.length cr,.slice Ab t.brs.length cb] 35))) 1 _ rfl
 have GA:=uZ ((uX w).alloc (.cells #[.slice Ar t.roots.length cr,.slice Ab t.brs.length cb] 35))
 go_enter Tryz.func53,Tryz.ntmps53
 go_wp2_with fail
 generalize w.alloc (.cells #[.slice Ar t.roots.length cr,.slice Ab t.brs.length cb] 35)=WA at b0 b1 GA ⊢
 go_cut [3] from 6 to 12 (fun s3 wx=>EditCut w t cs s3 wx)
 case first =>
  as_aux_lemma =>
  go_region_held3 (fun W=>W.cell? ⟨w.heap.size,0,none⟩=some (.slice Ar t.roots.length cr)∧W.cell? ⟨w.heap.size,1,none⟩=some (.slice Ab t.brs.length cb)∧Grew WA W) (refine heldQ WA _ b0 b1 (by repeat (first|exact uX WA|exact GB1.out|exact GB2.out|refine uJ ?_|refine uU ?_ _|refine yZ ?_ (by first|exact Nat.le_refl _|exact GB1.out.size|exact GB2.out.size|simp) _))) (first|(go_at_call 32;refine(KR.out _ (by repeat (first|exact GW2.out|exact GA.out|refine uJ ?_|refine uU ?_ _))).mono ?_;rintro e w1 ⟨v1,rfl,ho1,g1⟩;have HO1:=uZ (World.ownsRow.mono (base':=w.heap.size) ho1 (Grew.size (by repeat (first|exact GW2.out|exact GA.out|refine uJ ?_|refine uU ?_ _))));have GB1:=uZ (show Grew WA w1 from uY (by repeat (first|exact uX WA|exact GB2.out|refine uJ ?_|refine uU ?_ _)) g1);have GW1:=uZ (GA.out.trans GB1.out);(try have GX1:=uZ (show Grew w2 w1 from uY (by repeat (first|exact uX w2|refine uJ ?_|refine uU ?_ _)) g1));have x10:=uQ GB1.out b0;have x11:=uQ GB1.out b1;have HG1:=uZ g1;obtain⟨A1,c1,rfl⟩:=own_slice ho1;(try have Na1:=uZ (show Grew (WA.alloc (.cells [.slice none 0 0,.slice none 0 0].toArray 35)) w1 from uY (show Grew (WA.alloc (.cells [.slice none 0 0,.slice none 0 0].toArray 35)) ((WA.alloc (.cells [.slice none 0 0,.slice none 0 0].toArray 35)).drew) from(uX _).drew) g1));(try have Nb1:=uZ (show Grew (WA.alloc (.cells [.slice none 0 0,.slice none 0 0].toArray 35)) w1 from uY (show Grew (WA.alloc (.cells [.slice none 0 0,.slice none 0 0].toArray 35)) (WA.alloc (.cells [.slice none 0 0,.slice none 0 0].toArray 35)) from uX _) g1));(try have Nc1:=uZ (show Grew (w2.alloc (.cells [.slice none 0 0,.slice none 0 0].toArray 35)) w1 from uY (show Grew (w2.alloc (.cells [.slice none 0 0,.slice none 0 0].toArray 35)) ((w2.alloc (.cells [.slice none 0 0,.slice none 0 0].toArray 35)).drew) from(uX _).drew) g1));(try have Nd1:=uZ (show Grew (w2.alloc (.cells [.slice none 0 0,.slice none 0 0].toArray 35)) w1 from uY (show Grew (w2.alloc (.cells [.slice none 0 0,.slice none 0 0].toArray 35)) (w2.alloc (.cells [.slice none 0 0,.slice none 0 0].toArray 35)) from uX _) g1));(try have Nea1:=uZ (show Grew (WA.alloc (.cells [.slice none 0 0,.slice none 0 0].toArray 35)) w1 from uY Na2.out.drew g1));(try have Nfa1:=uZ (show Grew (WA.alloc (.cells [.slice none 0 0,.slice none 0 0].toArray 35)) w1 from uY Na2.out g1));(try have Neb1:=uZ (show Grew (WA.alloc (.cells [.slice none 0 0,.slice none 0 0].toArray 35)) w1 from uY Nb2.out.drew g1));(try have Nfb1:=uZ (show Grew (WA.alloc (.cells [.slice none 0 0,.slice none 0 0].toArray 35)) w1 from uY Nb2.out g1));(try have cNa01:=yQ Na1.out 0 _ rfl);(try have fNa01:=new_frz Na1.out 0);(try have cNa11:=yQ Na1.out 1 _ rfl);(try have fNa11:=new_frz Na1.out 1);(try have cNb01:=yQ Nb1.out 0 _ rfl);(try have fNb01:=new_frz Nb1.out 0);(try have cNb11:=yQ Nb1.out 1 _ rfl);(try have fNb11:=new_frz Nb1.out 1);(try have cNc01:=yQ Nc1.out 0 _ rfl);(try have fNc01:=new_frz Nc1.out 0);(try have cNc11:=yQ Nc1.out 1 _ rfl);(try have fNc11:=new_frz Nc1.out 1);(try have cNd01:=yQ Nd1.out 0 _ rfl);(try have fNd01:=new_frz Nd1.out 0);(try have cNd11:=yQ Nd1.out 1 _ rfl);(try have fNd11:=new_frz Nd1.out 1);(try have cNea01:=yQ Nea1.out 0 _ rfl);(try have fNea01:=new_frz Nea1.out 0);(try have cNea11:=yQ Nea1.out 1 _ rfl);(try have fNea11:=new_frz Nea1.out 1);(try have cNeb01:=yQ Neb1.out 0 _ rfl);(try have fNeb01:=new_frz Neb1.out 0);(try have cNeb11:=yQ Neb1.out 1 _ rfl);(try have fNeb11:=new_frz Neb1.out 1);(try have cNfa01:=yQ Nfa1.out 0 _ rfl);(try have fNfa01:=new_frz Nfa1.out 0);(try have cNfa11:=yQ Nfa1.out 1 _ rfl);(try have fNfa11:=new_frz Nfa1.out 1);(try have cNfb01:=yQ Nfb1.out 0 _ rfl);(try have fNfb01:=new_frz Nfb1.out 0);(try have cNfb11:=yQ Nfb1.out 1 _ rfl);(try have fNfb11:=new_frz Nfb1.out 1);clear ho1 g1)|(go_at_call 54;refine(KB.out _ (by repeat (first|exact GW1.out|exact GA.out|refine uJ ?_|refine uU ?_ _))).mono ?_;rintro e w2 ⟨v2,rfl,ho2,g2⟩;have HO2:=uZ (World.ownsRow.mono (base':=w.heap.size) ho2 (Grew.size (by repeat (first|exact GW1.out|exact GA.out|refine uJ ?_|refine uU ?_ _))));have GB2:=uZ (show Grew WA w2 from uY (by repeat (first|exact uX WA|exact GB1.out|refine uJ ?_|refine uU ?_ _)) g2);have GW2:=uZ (GA.out.trans GB2.out);(try have GX2:=uZ (show Grew w1 w2 from uY (by repeat (first|exact uX w1|refine uJ ?_|refine uU ?_ _)) g2));have x20:=uQ GB2.out b0;have x21:=uQ GB2.out b1;have HG2:=uZ g2;obtain⟨A2,c2,rfl⟩:=own_slice ho2;(try have Na2:=uZ (show Grew (WA.alloc (.cells [.slice none 0 0,.slice none 0 0].toArray 35)) w2 from uY (show Grew (WA.alloc (.cells [.slice none 0 0,.slice none 0 0].toArray 35)) ((WA.alloc (.cells [.slice none 0 0,.slice none 0 0].toArray 35)).drew) from(uX _).drew) g2));(try have Nb2:=uZ (show Grew (WA.alloc (.cells [.slice none 0 0,.slice none 0 0].toArray 35)) w2 from uY (show Grew (WA.alloc (.cells [.slice none 0 0,.slice none 0 0].toArray 35)) (WA.alloc (.cells [.slice none 0 0,.slice none 0 0].toArray 35)) from uX _) g2));(try have Nc2:=uZ (show Grew (w1.alloc (.cells [.slice none 0 0,.slice none 0 0].toArray 35)) w2 from uY (show Grew (w1.alloc (.cells [.slice none 0 0,.slice none 0 0].toArray 35)) ((w1.alloc (.cells [.slice none 0 0,.slice none 0 0].toArray 35)).drew) from(uX _).drew) g2));(try have Nd2:=uZ (show Grew (w1.alloc (.cells [.slice none 0 0,.slice none 0 0].toArray 35)) w2 from uY (show Grew (w1.alloc (.cells [.slice none 0 0,.slice none 0 0].toArray 35)) (w1.alloc (.cells [.slice none 0 0,.slice none 0 0].toArray 35)) from uX _) g2));(try have Nea2:=uZ (show Grew (WA.alloc (.cells [.slice none 0 0,.slice none 0 0].toArray 35)) w2 from uY Na1.out.drew g2));(try have Nfa2:=uZ (show Grew (WA.alloc (.cells [.slice none 0 0,.slice none 0 0].toArray 35)) w2 from uY Na1.out g2));(try have Neb2:=uZ (show Grew (WA.alloc (.cells [.slice none 0 0,.slice none 0 0].toArray 35)) w2 from uY Nb1.out.drew g2));(try have Nfb2:=uZ (show Grew (WA.alloc (.cells [.slice none 0 0,.slice none 0 0].toArray 35)) w2 from uY Nb1.out g2));(try have cNa02:=yQ Na2.out 0 _ rfl);(try have fNa02:=new_frz Na2.out 0);(try have cNa12:=yQ Na2.out 1 _ rfl);(try have fNa12:=new_frz Na2.out 1);(try have cNb02:=yQ Nb2.out 0 _ rfl);(try have fNb02:=new_frz Nb2.out 0);(try have cNb12:=yQ Nb2.out 1 _ rfl);(try have fNb12:=new_frz Nb2.out 1);(try have cNc02:=yQ Nc2.out 0 _ rfl);(try have fNc02:=new_frz Nc2.out 0);(try have cNc12:=yQ Nc2.out 1 _ rfl);(try have fNc12:=new_frz Nc2.out 1);(try have cNd02:=yQ Nd2.out 0 _ rfl);(try have fNd02:=new_frz Nd2.out 0);(try have cNd12:=yQ Nd2.out 1 _ rfl);(try have fNd12:=new_frz Nd2.out 1);(try have cNea02:=yQ Nea2.out 0 _ rfl);(try have fNea02:=new_frz Nea2.out 0);(try have cNea12:=yQ Nea2.out 1 _ rfl);(try have fNea12:=new_frz Nea2.out 1);(try have cNeb02:=yQ Neb2.out 0 _ rfl);(try have fNeb02:=new_frz Neb2.out 0);(try have cNeb12:=yQ Neb2.out 1 _ rfl);(try have fNeb12:=new_frz Neb2.out 1);(try have cNfa02:=yQ Nfa2.out 0 _ rfl);(try have fNfa02:=new_frz Nfa2.out 0);(try have cNfa12:=yQ Nfa2.out 1 _ rfl);(try have fNfa12:=new_frz Nfa2.out 1);(try have cNfb02:=yQ Nfb2.out 0 _ rfl);(try have fNfb02:=new_frz Nfb2.out 0);(try have cNfb12:=yQ Nfb2.out 1 _ rfl);(try have fNfb12:=new_frz Nfb2.out 1);clear ho2 g2))
  all_goals go_wp2_with fail
  all_goals go_meet
  all_goals first|refine edit_meet2 ?_ HO1.out ?_ HO2.out ?_|refine edit_meet (a:=.slice none 0 0) (b:=.slice none 0 0) ?_ ?_ ?_ HO1.out ?_ HO2.out ?_
  all_goals first|exact GA.out.size|exact GW1.out.size|exact GW2.out.size|exact heap_allocE rfl|exact uK Na1.out (heap_allocE rfl)|exact uK Na2.out (heap_allocE rfl)|exact uK Nb1.out (heap_allocE rfl)|exact uK Nb2.out (heap_allocE rfl)|exact uK Nc1.out (heap_allocE rfl)|exact uK Nc2.out (heap_allocE rfl)|exact uK Nd1.out (heap_allocE rfl)|exact uK Nd2.out (heap_allocE rfl)|exact uK Nea1.out (heap_allocE rfl)|exact uK Nea2.out (heap_allocE rfl)|exact uK Neb1.out (heap_allocE rfl)|exact uK Neb2.out (heap_allocE rfl)|exact uK Nfa1.out (heap_allocE rfl)|exact uK Nfa2.out (heap_allocE rfl)|exact uK Nfb1.out (heap_allocE rfl)|exact uK Nfb2.out (heap_allocE rfl)|((repeat (first|exact GW1.out|exact GW2.out|refine uJ ?_|refine uU ?_ _));done)|((repeat (first|exact uX w1|exact GX2.out|refine uJ ?_|refine uU ?_ _));done)|((repeat (first|exact uX w2|exact GX1.out|refine uJ ?_|refine uU ?_ _));done)
 case rest =>
  as_aux_lemma =>
  obtain⟨X,rv,bv,rfl,hX,ho,hb,hG,hXlo⟩:=hcut
  rw[HCL.out] at hb
  have HS:=uZ (Half.start ho hb HCL.out HOK.out)
  obtain⟨A1,c1,rfl⟩:=own_slice ho
  obtain⟨A2,c2,rfl⟩:=own_slice hb
  have x0:wc.cell? ⟨X,0,none⟩=some (.slice A1 t.roots.length c1):=by simp[World.cell?,hX]
  have x1:wc.cell? ⟨X,1,none⟩=some (.slice A2 t.brs.length c2):=by simp[World.cell?,hX]
  have HX:=uZ hX
  have HGC:=uZ hG
  clear ho hb hX hG b0 b1 GA HOK KR KB
  go_wp2
  clear x0 x1
  go_loopg [16] t.brs.length (fun gg s16 wr=>∃(k:Nat) (ds:List BrC),k≤t.brs.length∧t.brs.length-k≤gg∧s16=.int .i64 k∧Aside (Half w (.slice A1 t.roots.length c1) (.slice A2 t.brs.length c2) ds t k wr)∧Aside (wr.heap[X]? = some (.cells #[.slice A1 t.roots.length c1,.slice A2 t.brs.length c2] 35 (0,0)))∧Aside (Grew w wr))
  case atStart=>exact⟨0,cs,by omega,by omega,rfl,(show Aside _ from HS.out),(show Aside _ from HX.out),(show Aside _ from HGC.out)⟩
  case round =>
   clear HS HX HGC hXlo
   obtain⟨k,ds,hkl,hgk,rfl,HH,HX,GW⟩:=hrel
   have x0:wr.cell? ⟨X,0,none⟩=some (.slice A1 t.roots.length c1):=by have:=HX.out;simp[World.cell?,this]
   have x1:wr.cell? ⟨X,1,none⟩=some (.slice A2 t.brs.length c2):=by have:=HX.out;simp[World.cell?,this]
   by_cases hlt:k<t.brs.length
   ·have hltz:(k:Int)<(t.brs.length:Int):=by omega
    have h0z:(0:Int)≤(k:Int):=by omega
    obtain⟨B,cap,kv,e,hlo,hBs,hkv,hfz,c0,c1',c2',c3,c4,c5⟩:=HH.out.cells hlt
    injection e with e1 _ e2
    subst e1 e2
    have hlk:=HFK.out k hlt
    have KK:=uZ (fun W (hW:Grew w W)=>cloneI t.brs[k].kids kv W (hkv.mono hW) b_37)
    obtain⟨Ak,ck,rfl,-⟩:=SlI.open_ hkv
    have HY:=uZ (fun W v' (hg:Grew wr W) (hv:OwnI wr.heap.size W v' t.brs[k].kids)=>round_meet HH.out hlt GW.out hg hv HX.out)
    have hz5:=hfz (k*6+5)
    have hXB:X≠B:=by
     intro e
     subst e
     obtain⟨c,hc⟩:=own_ty HH.out.brs (g:=X) rfl
     rw[HX.out] at hc
     injection hc with hc
     injection hc with _ hc _
     exact ne_BT hc.symm
    have hRB:wr.heap.size≠B:=by omega
    clear hkv hlk hfz
    generalize t.brs[k]=y at c0 c1' c2' c3 c4 c5 KK HY
    obtain⟨yi,yp,yl,yt,ym,yk⟩:=y
    dsimp only at c0 c1' c2' c3 c4 c5 KK HY
    go_wp2_with fail
    have d5:=yQ (uX (wr.alloc (.cells #[.int .i64 yi,.int .i64 yp,.int .i64 yl,.string yt,.string ym,.slice Ak yk.length ck] 53))) 5 _ rfl
    have GB:=uZ ((uX wr).alloc (.cells #[.int .i64 yi,.int .i64 yp,.int .i64 yl,.string yt,.string ym,.slice Ak yk.length ck] 53))
    have f5:=(GB.out.frozen (p:=⟨B,k*6+5,none⟩) hBs).trans hz5
    have y1:=uQ GB.out x1
    have y5:=uQ GB.out c5
    have hBs2:B<(wr.alloc (.cells #[.int .i64 yi,.int .i64 yp,.int .i64 yl,.string yt,.string ym,.slice Ak yk.length ck] 53)).heap.size:=Nat.lt_of_lt_of_le hBs GB.out.size
    clear x0 x1 c0 c1' c2' c3 c4 c5 hz5
    generalize wr.alloc (.cells #[.int .i64 yi,.int .i64 yp,.int .i64 yl,.string yt,.string ym,.slice Ak yk.length ck] 53)=WB at d5 GB f5 y1 y5 hBs2 ⊢
    go_region_held3 (fun W=>W.cell? ⟨X,1,none⟩=some (.slice (some ⟨B,0,none⟩) t.brs.length c2)∧W.cell? ⟨wr.heap.size,5,none⟩=some (.slice Ak yk.length ck)) (first|(refine heldQ2 WB _ y1 d5 ?_;(repeat (first|exact uX WB|exact GB1.out|refine uJ ?_));done)|exact heldQ3 w1 ⟨B,k*6+5,none⟩ _ hXB hRB z1 zd) ((go_at_call 32;refine(KK.out _ (GW.out.trans (by repeat (first|exact GB.out|refine uJ ?_)))).mono ?_;rintro e w1 ⟨v1,rfl,ho1,g1⟩;have GB1:=uZ (show Grew WB w1 from uY (by repeat (first|exact uX WB|refine uJ ?_)) g1);have HO1:=uZ (World.ownsRow.mono (base':=wr.heap.size) ho1 (Grew.size (by repeat (first|exact GB.out|refine uJ ?_))));obtain⟨A3,c3,rfl⟩:=own_slice ho1;have z1:=uQ GB1.out y1;have z5:=uQ GB1.out y5;have zd:=uQ GB1.out d5;have g5:=(GB1.out.frozen (p:=⟨B,k*6+5,none⟩) hBs2).trans f5;clear ho1 g1))
    go_wp2
    go_roundg (t.brs.length-(k+1))
    case measure=>omega
    case rel =>
     obtain⟨ds2,hH2,-,hX2,hG2⟩:=HY.out _ _ (GB.out.trans GB1.out) HO1.out
     exact⟨k+1,ds2,by omega,by omega,by go_num,(show Aside _ from hH2),(show Aside _ from hX2),(show Aside _ from hG2)⟩
   ·have hltz:¬ (k:Int)<(t.brs.length:Int):=by omega
    obtain rfl:k=t.brs.length:=by omega
    go_wp2
    go_ret
    exact⟨_,rfl,⟨_,HH.out.done GW.out⟩,GW.out.alloc _⟩
end Go.Proofs.YtafncfomiolmgaaGreatDoor
namespace Go.Proofs.YtafncfomiolmgaaGreatDoor
open Go.RowKit
theorem edTake1 (n:Int) (B:Nat) (x:Int) (W:World) (h0:W.cell? ⟨B,0,none⟩=some (.int .i64 n)) :
  Calls Tryz.prog 138 (#[.int .i64 x] ++ #[.pointer (some ⟨B,0,none⟩)]) W fun e w'=>e=.returned (.bool (x == n))∧Grew W w':=by
 have hB:=World.block_lt_of_cell? W _ h0
 go_enter Tryz.func138,Tryz.ntmps138
 go_wp2
 go_ret
 exact⟨rfl,uX W⟩
theorem enters_edTake1:∀ args w,(callFunc 138 args).run Tryz.prog w=.ok (.enter 138 args) w:=enters_of Tryz.func138 (by kernel_rfl) rfl
section
variable {w0:World} {E:Nat} {bv:Value} {t:Tr} {w:World}
theorem takeDone {w1 w3:World} {p n:Int} {ab ao:Nat} {kv v3:Value} {L:List Int} {R:Tr} (h:KAt w0.heap.size E bv t p ⟨ab,ao,none⟩ kv w1) (hR:setK t p (L.filter fun x=>!(x == n))=R) (hG:Grew w0 w1) (own:w3.ownsRow w0.heap.size 3 1 v3 (L.filter fun x=>!(x == n)).length ((L.filter fun x=>!(x == n)).flatMap oneI))
  (hg:w1.grownBy w3 kv.ownBlock) (hat:v3.ownBlock=kv.ownBlock):EdB w0.heap.size E bv R (w3.setCell ⟨ab,ao,none⟩ v3)∧Grew w0 (w3.setCell ⟨ab,ao,none⟩ v3):=by
 refine⟨?_,?_⟩
 ·rw[← hR]
  exact h.back w3 v3 _ hg own (.inl hat)
 ·exact(Below.grown hG hg hG.size (fun b e=>(h.own.lt b e).1)).setCell (p:=⟨ab,ao,none⟩) h.lo v3
theorem edKidsAt {base:Nat} (h:EdB base E bv t w) (hasc:idsAsc t.brs) (hlen:t.brs.length≤1000000) {p:Int} (hp:p=0∨∃ b∈t.brs,b.id=p) :
  ∃ ab ao kv,KAt base E bv t p ⟨ab,ao,none⟩ kv w∧∀ W,Grew w W→Calls Tryz.prog 89 #[.pointer (some ⟨E,0,none⟩),.int .i64 p] W fun e w'=>e=.returned (.pointer (some ⟨ab,ao,none⟩))∧Grew W w':=by
 by_cases hz:p=0
 ·subst hz
  obtain⟨rv,cs,hE⟩:=h
  refine⟨E,0,rv,hE.kat0,fun W hW=>?_⟩
  clear hE hW
  go_enter Tryz.func89,Tryz.ntmps89
  go_wp2
  go_ret
  exact⟨rfl,uX W⟩
 ·obtain⟨b,hb,e⟩:=hp.resolve_left hz
  obtain⟨i,hi,rfl⟩:=List.mem_iff_getElem.1 hb
  subst e
  obtain⟨rv,cs,hE⟩:=h
  obtain⟨B,cap,hbv,-,-,-⟩:=own_form hE.brs b_37
  refine⟨B,i*6+5,_,hE.katB hasc hi hz hbv,fun W hW=>?_⟩
  have hEW:EdB base E bv t W:=⟨rv,cs,hE.grew hW⟩
  have K:=uZ (edBranch hEW hasc hlen hi hbv)
  have hz':(t.brs[i].id == 0)=false:=by simpa using hz
  generalize t.brs[i].id=p at K hz' ⊢
  clear hE hz hb hp hEW hW
  go_enter Tryz.func89,Tryz.ntmps89
  go_wp2_with fail
  refine K.out.mono ?_
  rintro e w1 ⟨rfl,g1⟩
  dsimp only
  go_wp2
  go_ret
  exact⟨rfl,g1⟩
set_option maxHeartbeats 4000000 in
theorem edTake (h:EdB w0.heap.size E bv t w) (hG:Grew w0 w) (hasc:idsAsc t.brs) (hlen:t.brs.length≤1000000) {i:Nat} (hi:i<t.brs.length) (hp:t.brs[i].parent=0∨∃ b∈t.brs,b.id=t.brs[i].parent) :
  Calls Tryz.prog 94 #[.pointer (some ⟨E,0,none⟩),.int .i64 t.brs[i].id] w fun e w'=>e=.returned (.tuple #[])∧EdB w0.heap.size E bv (setK t t.brs[i].parent (withoutF t.brs[i].id (childs t t.brs[i].parent))) w'∧Grew w0 w':=by
 obtain⟨rv,cs,hE⟩:=h
 obtain⟨B,cap,hbv,-,-,-⟩:=own_form hE.brs b_37
 obtain⟨-,c1,-⟩:=hE.at_ hi hbv
 have hEw:EdB w0.heap.size E bv t w:=⟨rv,cs,hE⟩
 have KB:=uZ (fun W (hW:Grew w W)=>edBranch (hEw.grew hW) hasc hlen hi hbv)
 obtain⟨ab,ao,kv,hkat,hK⟩:=edKidsAt hEw hasc hlen hp
 have KK:=uZ hK
 have HKAT:=uZ hkat
 have HG:=uZ hG
 have C1:=uZ c1
 unfold withoutF
 generalize hR:setK t t.brs[i].parent ((childs t t.brs[i].parent).filter fun x=>!(x == t.brs[i].id))=R
 have HR:=uZ hR
 clear hR
 generalize t.brs[i].id=n at KB HR ⊢
 generalize t.brs[i].parent=p at KK C1 HKAT HR ⊢
 clear hE hEw hG hasc hlen hp c1 hbv hkat hK
 go_enter Tryz.func94,Tryz.ntmps94
 go_wp2_with fail
 refine(KB.out _ ((uX w).alloc _)).mono ?_
 rintro e w1 ⟨rfl,g1⟩
 have b0:=yQ (cs:=[.int .i64 n]) g1 0 _ rfl
 have HG1:=uZ (((uX w).alloc _).trans g1)
 have c1:=uQ HG1.out C1.out
 clear g1
 dsimp only
 go_wp2_with fail
 refine(KK.out _ HG1.out).mono ?_
 rintro e w2 ⟨rfl,g2⟩
 have hk2:=HKAT.out.grew (HG1.out.trans g2)
 have b2:=uQ g2 b0
 have d1:=hk2.cell
 have HKAT2:=uZ hk2
 have HG2:=uZ (HG.out.trans (HG1.out.trans g2))
 have hbox:some w.heap.size≠kv.ownBlock:=fun e=>by
  have:=(HKAT.out.own.lt _ e.symm).2
  omega
 have hdel:=deleteFuncG (childs t p) (fun x=>x == n) 138 #[.pointer (some ⟨w.heap.size,0,none⟩)] enters_edTake1 w0.heap.size kv w2 HG2.out.size hk2.own (fun W x hW _=>edTake1 n w.heap.size x W (hW.cell b2 hbox))
 have HDEL:=uZ hdel
 obtain⟨Ak,ck,rfl⟩:=own_slice hk2.own
 clear g2 hk2 hdel b0 c1 hbox
 generalize childs t p=L at HDEL HR d1 HKAT2
 dsimp only
 go_wp2_with fail
 refine HDEL.out.mono ?_
 rintro e w3 ⟨v3,rfl,own3,hat3,-,hgr3⟩
 obtain⟨A3,d3,rfl⟩:=own_slice own3
 have HFIN:=uZ (takeDone (R:=R) HKAT2.out HR.out HG2.out own3 hgr3 hat3)
 have c3:=hgr3.cell d1 (fun e=>HKAT2.out.off e.symm)
 have f3:=(World.frozen?_of_block (a:=⟨ab,ao,none⟩) (hgr3.block ab HKAT2.out.lt (fun e=>HKAT2.out.off e.symm))).trans HKAT2.out.frz
 clear own3 hgr3 hat3
 dsimp only
 go_wp2
 go_end0
 exact⟨rfl,HFIN.out⟩
end
end Go.Proofs.YtafncfomiolmgaaGreatDoor
namespace Go.Proofs.YtafncfomiolmgaaGreatDoor
open Go.RowKit
set_option maxRecDepth 100000 in
theorem c_63 {p:Prop} (h:p:=by
 clear HBAD HS HOK M
 go_wp2
 go_round
 case rel=>exact⟨k+1,by omega,by go_num,(show Aside _ from Hy.out)⟩
 case measure=>simp[intOf];omega):p:=h
theorem occ2 (l:List UInt8) (j:Nat):Lib.occAt l [32,32] j=true↔l[j]? = some 32∧l[j+1]? = some 32:=by
 unfold Lib.occAt
 cases h:l.drop j with
 | nil =>
  have h1:l[j]? = none:=by rw[List.getElem?_eq_none_iff];have:=congrArg List.length h;simp at this;omega
  simp[h1]
 | cons a t =>
  have h1:l[j]? = some a:=by have:=congrArg (·[0]?) h;simpa using this
  have h2:l[j+1]? = t[0]?:=by have:=congrArg (·[1]?) h;simpa using this
  rw[h1,h2]
  cases t with
  | nil=>simp[List.isPrefixOf]
  | cons b u =>
   simp only [List.isPrefixOf,Bool.and_true,Bool.and_eq_true,beq_iff_eq,List.getElem?_cons_zero,Option.some.injEq]
   exact⟨fun⟨x,y⟩=>⟨x.symm,y.symm⟩,fun⟨x,y⟩=>⟨x.symm,y.symm⟩⟩
def okB (l:List UInt8) (i:Nat):Prop:=∀ c,l[i]? = some c→32≤c.toNat∧c.toNat≤126∧¬ (0<i∧c=32∧l[i-1]? = some 32)
theorem name_rest (l:List UInt8):(!Lib.contains l [32,32] && allIn 32 126 l)=true↔∀ i,i<l.length→okB l i:=by
 unfold Lib.contains allIn
 rw[Bool.and_eq_true,Bool.not_eq_true',decide_eq_false_iff_not,List.all_eq_true]
 constructor
 ·rintro ⟨h1,h2⟩ i hi c hc
  have hm:=h2 c (List.mem_of_getElem? hc)
  rw[Bool.and_eq_true,decide_eq_true_eq,decide_eq_true_eq] at hm
  refine⟨hm.1,hm.2,?_⟩
  rintro ⟨h3,rfl,h5⟩
  rcases Lib.index_spec l [32,32] with ⟨_,h6⟩|⟨j,h6,_⟩
  ·have:=h6 (i-1) b_37
   rw[(occ2 l (i-1)).2 ⟨h5,by rw[Nat.sub_add_cancel h3];exact hc⟩] at this
   cases this
  ·rw[h6] at h1;omega
 ·intro h
  refine⟨?_,fun c hc=>?_⟩
  ·rcases Lib.index_spec l [32,32] with ⟨h6,_⟩|⟨j,h6,h7,h8,_⟩
   ·omega
   ·obtain⟨h9,h10⟩:=(occ2 l j).1 h8
    have hj:j+1<l.length:=(List.getElem?_eq_some_iff.1 h10).1
    exact absurd ⟨by omega,rfl,by simpa using h9⟩ (h (j+1) hj 32 h10).2.2
  ·obtain⟨i,hi,rfl⟩:=List.mem_iff_getElem.1 hc
   have:=h i hi l[i] (List.getElem?_eq_getElem hi)
   rw[Bool.and_eq_true,decide_eq_true_eq,decide_eq_true_eq]
   exact⟨this.1,this.2.1⟩
theorem data_at (s:ByteArray) (k:Nat) (h:k<s.size):s.data.toList[k]? = some s[k]:=by
 rw[List.getElem?_eq_getElem (by rw[size_data];exact h)];rfl
theorem eq32 (c:UInt8):c=32↔(c.toNat:Int)=32:=by
 rw[← UInt8.toNat_inj]
 have h2:(32:UInt8).toNat=32:=rfl
 omega
set_option maxHeartbeats 2000000 in
theorem refName (s:ByteArray) (w:World):Calls Tryz.prog 44 #[.string s] w fun e w'=>e=.returned (.bool (nameF s.data.toList))∧Grew w w':=by
 have hsd:=size_data s
 by_cases h0:s.size<1
 ·have hN:nameF s.data.toList=false:=by simp only [nameF,hsd];rw[decide_eq_false b_37];rfl
  rw[hN]
  have h0':(s.size:Int)<1:=by omega
  clear hsd hN
  go_enter Tryz.func44,Tryz.ntmps44
  exact c_71
 have h0':decide ((s.size:Int)<1)=false:=by simp;omega
 by_cases h1:64<s.size
 ·have hN:nameF s.data.toList=false:=by simp only [nameF,hsd];rw[decide_eq_false b_37];rfl
  rw[hN]
  have h1':(64:Int)<(s.size:Int):=by omega
  clear hsd hN
  go_enter Tryz.func44,Tryz.ntmps44
  exact c_71
 have h1':decide ((64:Int)<(s.size:Int))=false:=by simp;omega
 have hz0:0<s.size:=by omega
 have hs64:s.size≤64:=by omega
 have hz1:s.size-1<s.size:=by omega
 have hN:nameF s.data.toList=(!((s[0].toNat:Int) == 32) && (!((s[s.size-1].toNat:Int) == 32) && (!Lib.contains s.data.toList [32,32] && allIn 32 126 s.data.toList))):=by
  simp only [nameF,hsd,head_at s hz0,last_at s hz1,is32]
  rw[decide_eq_true b_37]
  rfl
 rw[hN]
 have hi1:(0:Int)≤(s.size:Int)-1:=by omega
 have hi2:(s.size:Int)-1<(s.size:Int):=by omega
 have hrest:=name_rest s.data.toList
 rw[hsd] at hrest
 generalize (!Lib.contains s.data.toList [32,32] && allIn 32 126 s.data.toList)=Q at hrest
 have HRE:=uZ hrest
 clear hsd hN h0 h1 hrest
 cases a1:((s[0].toNat:Int) == 32) with
 | true =>
  go_enter Tryz.func44,Tryz.ntmps44
  exact c_71
 | false =>
 cases a2:((s[s.size-1].toNat:Int) == 32) with
 | true =>
  go_enter Tryz.func44,Tryz.ntmps44
  exact c_71
 | false =>
 go_enter Tryz.func44,Tryz.ntmps44
 go_wp2
 go_loop [3] (fun i=>∃ k:Nat,k≤s.size∧i=.int .i64 k∧Aside (∀ j,j<k→okB s.data.toList j)) (fun i=>s.size-(intOf i).toNat)
 case atStart=>exact⟨0,by omega,rfl,(show Aside _ from fun j h=>absurd h (Nat.not_lt_zero _))⟩
 case round =>
  obtain⟨k,hk,rfl,M⟩:=hrel
  by_cases hlt:k<s.size
  case neg =>
   have hltz:¬ (k:Int)<(s.size:Int):=by omega
   have hQ:Q=true:=HRE.out.2 (fun i hi=>M.out i b_37)
   subst hQ
   exact c_71
  have hltz:(k:Int)<(s.size:Int):=by omega
  have h0z:(0:Int)≤(k:Int):=by omega
  have HBAD:RowKit.Hid (¬ okB s.data.toList k→Q=false):=fun h=>by
   rw[← Bool.not_eq_true,HRE.out]
   exact fun h2=>h (h2 k hlt)
  have HS:RowKit.Hid (okB s.data.toList k→∀ j,j<k+1→okB s.data.toList j):=fun h j hj=>by
   by_cases e:j=k
   ·subst e;exact h
   ·exact M.out j b_37
  have hck:=data_at s k hlt
  have HOK:RowKit.Hid (okB s.data.toList k↔32≤(s[k].toNat:Int)∧(s[k].toNat:Int)≤126∧¬ (0<k∧(s[k].toNat:Int)=32∧((s[k-1]'b_37).toNat:Int)=32)):=by
   have hp:=data_at s (k-1) b_37
   constructor
   ·intro h
    have:=h s[k] hck
    refine⟨by omega,by omega,?_⟩
    rintro ⟨h1,h2,h3⟩
    exact this.2.2 ⟨h1,(eq32 _).2 h2,by rw[hp];congr 1;exact(eq32 _).2 h3⟩
   ·rintro ⟨h1,h2,h3⟩ c hc
    rw[hck] at hc
    obtain rfl:=Option.some.inj hc
    refine⟨by omega,by omega,?_⟩
    rintro ⟨h4,h5,h6⟩
    rw[hp] at h6
    exact h3 ⟨h4,(eq32 _).1 h5,(eq32 _).1 (Option.some.inj h6)⟩
  clear hck
  cases b1:decide ((s[k].toNat:Int)<32) with
  | true =>
   have hQ:=HBAD.out (fun h=>by have:=(HOK.out.1 h).1;simp at b1;omega)
   subst hQ
   exact c_71
  | false =>
  cases b2:decide ((126:Int)<(s[k].toNat:Int)) with
  | true =>
   have hQ:=HBAD.out (fun h=>by have:=(HOK.out.1 h).2.1;simp at b2;omega)
   subst hQ
   exact c_71
  | false =>
  rcases Nat.eq_zero_or_pos k with hk0|hkpos
  ·subst hk0
   have Hy:=uZ (HS.out (HOK.out.2 ⟨by simp at b1;omega,by simp at b2;omega,fun h=>absurd h.1 (Nat.lt_irrefl _)⟩))
   clear HBAD HS HOK M
   go_wp2
   go_round
   case rel=>exact⟨1,by omega,by go_num,(show Aside _ from Hy.out)⟩
   case measure=>simp[intOf];omega
  have hkz:(0:Int)<(k:Int):=by omega
  have hki:(0:Int)≤(k:Int)-1:=by omega
  have hki2:(k:Int)-1<(s.size:Int):=by omega
  have hki3:(1:Int)≤(k:Int):=by omega
  have hkt:((k:Int)-1).toNat=k-1:=by omega
  have hk1:k-1<s.size:=by omega
  cases b3:((s[k].toNat:Int) == 32) with
  | false =>
   have Hy:=uZ (HS.out (HOK.out.2 ⟨by simp at b1;omega,by simp at b2;omega,fun h=>by have:=h.2.1;simp at b3;omega⟩))
   exact c_63
  | true =>
  cases b4:(((s[k-1]'b_37).toNat:Int) == 32) with
  | false =>
   have Hy:=uZ (HS.out (HOK.out.2 ⟨by simp at b1;omega,by simp at b2;omega,fun h=>by have:=h.2.2;simp at b4;omega⟩))
   exact c_63
  | true =>
   have hQ:=HBAD.out (fun h=>(HOK.out.1 h).2.2 ⟨hkpos,by simpa using b3,by simpa using b4⟩)
   subst hQ
   clear HBAD HS HOK M
   exact c_71
end Go.Proofs.YtafncfomiolmgaaGreatDoor
namespace Go.Proofs.YtafncfomiolmgaaGreatDoor
open Go.RowKit
set_option maxRecDepth 100000 in
theorem c_64 {p:Prop} (h:p:=by
 go_wp2
 go_round
 case rel=>exact⟨k+1,by omega,by go_num,(show Aside _ from Hy.out)⟩
 case measure=>simp[intOf];omega):p:=h
set_option maxRecDepth 100000 in
theorem c_69 {p:Prop} (h:p:=by
 by_cases e:j=k
 ·subst e;exact h
 ·exact M.out j hj b_37):p:=h
def okM (l:List UInt8) (i:Nat):Prop:=∀ c,l[i]? = some c→33≤c.toNat∧c.toNat≤126
theorem mark_rest (l:List UInt8):allIn 33 126 l=true↔∀ i,i<l.length→okM l i:=by
 unfold allIn
 rw[List.all_eq_true]
 constructor
 ·intro h i hi c hc
  have:=h c (List.mem_of_getElem? hc)
  rw[Bool.and_eq_true,decide_eq_true_eq,decide_eq_true_eq] at this
  exact this
 ·intro h c hc
  obtain⟨i,hi,rfl⟩:=List.mem_iff_getElem.1 hc
  have:=h i hi l[i] (List.getElem?_eq_getElem hi)
  rw[Bool.and_eq_true,decide_eq_true_eq,decide_eq_true_eq]
  exact this
set_option maxHeartbeats 2000000 in
theorem refMark (s:ByteArray) (w:World) (hb:s.size≤9223372036854775807):Calls Tryz.prog 45 #[.string s] w fun e w'=>e=.returned (.bool (markF s.data.toList))∧Grew w w':=by
 have hsd:=size_data s
 have hN:markF s.data.toList=(decide (1≤(s.size:Int)) && (decide ((s.size:Int)≤64) && allIn 33 126 s.data.toList)):=by
  unfold markF
  rw[hsd,← Bool.and_assoc]
  congr 1
  rw[Bool.eq_iff_iff]
  simp
  omega
 rw[hN]
 have hrest:=mark_rest s.data.toList
 rw[hsd] at hrest
 generalize allIn 33 126 s.data.toList=Q at hrest ⊢
 have HRE:=uZ hrest
 clear hsd hN hrest
 go_enter Tryz.func45,Tryz.ntmps45
 go_wp2
 go_loop [3] (fun i=>∃ k:Nat,k≤s.size∧i=.int .i64 k∧Aside (∀ j,j<k→okM s.data.toList j)) (fun i=>s.size-(intOf i).toNat)
 case atStart=>exact⟨0,by omega,rfl,(show Aside _ from fun j h=>absurd h (Nat.not_lt_zero _))⟩
 case round =>
  obtain⟨k,hk,rfl,M⟩:=hrel
  by_cases hlt:k<s.size
  case neg =>
   have hltz:¬ (k:Int)<(s.size:Int):=by omega
   have hQ:Q=true:=HRE.out.2 (fun i hi=>M.out i b_37)
   subst hQ
   cases a1:decide (1≤(s.size:Int))<;>cases a2:decide ((s.size:Int)≤64)
   all_goals
    go_wp2
    go_ret
    exact⟨rfl,uX w⟩
  have hltz:(k:Int)<(s.size:Int):=by omega
  have h0z:(0:Int)≤(k:Int):=by omega
  have hck:=data_at s k hlt
  have HBAD:RowKit.Hid (¬ okM s.data.toList k→Q=false):=fun h=>by
   rw[← Bool.not_eq_true,HRE.out]
   exact fun h2=>h (h2 k hlt)
  have HS:RowKit.Hid (okM s.data.toList k→∀ j,j<k+1→okM s.data.toList j):=fun h j hj=>by
   by_cases e:j=k
   ·subst e;exact h
   ·exact M.out j b_37
  have HOK:RowKit.Hid (okM s.data.toList k↔33≤(s[k].toNat:Int)∧(s[k].toNat:Int)≤126):=by
   constructor
   ·intro h
    have:=h s[k] hck
    omega
   ·intro h c hc
    rw[hck] at hc
    obtain rfl:=Option.some.inj hc
    omega
  clear hck
  cases b1:decide ((s[k].toNat:Int)<33) with
  | true =>
   have hQ:=HBAD.out (fun h=>by have:=(HOK.out.1 h).1;simp at b1;omega)
   subst hQ
   go_wp2
   go_ret
   exact⟨by simp,uX w⟩
  | false =>
  cases b2:decide (126<(s[k].toNat:Int)) with
  | true =>
   have hQ:=HBAD.out (fun h=>by have:=(HOK.out.1 h).2;simp at b2;omega)
   subst hQ
   go_wp2
   go_ret
   exact⟨by simp,uX w⟩
  | false =>
  have Hy:=uZ (HS.out (HOK.out.2 (by simp at b1 b2;omega)))
  exact c_63
set_option maxHeartbeats 2000000 in
theorem refLevel (n:Int) (w:World):Calls Tryz.prog 43 #[.int .i64 n] w fun e w'=>e=.returned (.bool (within n 1 4))∧w=w':=by
 unfold within
 cases a1:decide (1≤n)<;>cases a2:decide (n≤4)
 all_goals
  go_enter Tryz.func43,Tryz.ntmps43
  go_wp2
  go_ret
  exact⟨rfl,rfl⟩
set_option maxHeartbeats 2000000 in
theorem refFits (p c:Int) (w:World):Calls Tryz.prog 143 #[.int .i64 p,.int .i64 c] w fun e w'=>e=.returned (.bool (fitsF p c))∧w=w':=by
 have kp:=refLevel p
 have kc:=refLevel c
 have hf:fitsF p c=(within p 1 4 && (within c 1 4 && (decide (p<c) || ((c == 2) && (p == 2))))):=by
  unfold fitsF
  rw[Bool.and_comm (p == 2)]
 rw[hf]
 generalize within p 1 4=q1 at kp ⊢
 generalize within c 1 4=q2 at kc ⊢
 have KP:=uZ kp
 have KC:=uZ kc
 clear kp kc hf
 cases q1
 ·go_enter Tryz.func143,Tryz.ntmps143
  go_wp2_with fail
  refine(KP.out _).mono ?_
  rintro e w1 ⟨rfl,rfl⟩
  dsimp only
  go_wp2
  go_ret
  exact⟨by simp,rfl⟩
 cases q2
 ·go_enter Tryz.func143,Tryz.ntmps143
  go_wp2_with fail
  refine(KP.out _).mono ?_
  rintro e w1 ⟨rfl,rfl⟩
  dsimp only
  go_wp2_with fail
  refine(KC.out _).mono ?_
  rintro e w1 ⟨rfl,rfl⟩
  dsimp only
  go_wp2
  go_ret
  exact⟨by simp,rfl⟩
 cases a1:decide (p<c)<;>cases a2:(c == 2)<;>cases a3:(p == 2)
 all_goals
  go_enter Tryz.func143,Tryz.ntmps143
  go_wp2_with fail
  refine(KP.out _).mono ?_
  rintro e w1 ⟨rfl,rfl⟩
  dsimp only
  go_wp2_with fail
  refine(KC.out _).mono ?_
  rintro e w1 ⟨rfl,rfl⟩
  dsimp only
  go_wp2
  go_ret
  exact⟨rfl,rfl⟩
theorem brFind_hit {l:List Br} {id:Int} {k:Nat} (h:k<l.length) (hb:∀ j (hj:j<l.length),j<k→¬ l[j].id=id) (he:l[k].id=id):brFind l id=some l[k]:=by
 unfold brFind
 exact List.find?_eq_some_iff_getElem.2 ⟨by simpa using he,k,h,rfl,fun j hj=>by simpa using hb j b_37 hj⟩
theorem brFind_miss {l:List Br} {id:Int} (hb:∀ j (hj:j<l.length),¬ l[j].id=id):brFind l id=none:=by
 unfold brFind
 rw[List.find?_eq_none]
 intro x hx
 obtain⟨j,hj,rfl⟩:=List.mem_iff_getElem.1 hx
 simpa using hb j hj
set_option maxHeartbeats 4000000 in
theorem refFind19 (l:List Br) (id:Int) (rv bv:Value) (w:World) (hv:SlBr w bv l):Calls Tryz.prog 62 #[.agg #[rv,bv],.int .i64 id] w (TFindEnd (brFind l id) w):=by
 obtain⟨A,c,rfl,hlc,hc,hr⟩:=hv.open_
 unfold maxLen at hc
 have HR:=uZ hr
 have HF1:=uZ (fun k=>@brFind_hit l id k)
 have HF2:=uZ (@brFind_miss l id)
 generalize brFind l id=O at HF1 HF2 ⊢
 clear hr hv
 go_enter Tryz.func62,Tryz.ntmps62
 go_wp2
 go_loop [6] (fun i=>∃ k:Nat,k≤l.length∧i=.int .i64 k∧Aside (∀ j (hj:j<l.length),j<k→¬ l[j].id=id)) (fun i=>l.length-(intOf i).toNat)
 case atStart=>exact⟨0,by omega,rfl,(show Aside _ from fun j h h2=>absurd h2 (Nat.not_lt_zero _))⟩
 case round =>
  obtain⟨k,hk,rfl,M⟩:=hrel
  by_cases hlt:k<l.length
  ·have hltz:(k:Int)<(l.length:Int):=by omega
   have h0z:(0:Int)≤(k:Int):=by omega
   obtain⟨b,off,rfl,hb,hcell⟩:=HR.out b_37
   obtain⟨kv,-,hcl⟩:=hcell k hlt
   obtain⟨c0,c1,c2,c3,c4,-⟩:=hcl _ (((uX w).alloc (.cells #[rv,.slice (some ⟨b,off,none⟩) l.length c] 35)).alloc (.cells #[.int .i64 0,.int .i64 0,.int .i64 0,.string ⟨#[]⟩,.string ⟨#[]⟩] 51))
   have HS:=uZ (HF1.out k hlt M.out)
   have HN:RowKit.Hid (¬ l[k].id=id→∀ j (hj:j<l.length),j<k+1→¬ l[j].id=id):=fun h j hj h2=>by
    exact c_69
   generalize l[k]=y at c0 c1 c2 c3 c4 HS HN
   obtain⟨yi,yp,yl,yt,ym,yk⟩:=y
   dsimp only at c0 c1 c2 c3 c4 HS HN
   clear hcell hcl
   by_cases he:yi=id
   ·have hO:=HS.out he
    have he':(yi == id)=true:=by simpa using he
    subst hO
    clear he HS HN M HF1 HF2
    go_wp2
    refine bodyPost_ret (v:=.tuple #[.agg #[.int .i64 yi,.int .i64 yp,.int .i64 yl,.string yt,.string ym],.bool true]) (by simp[results,Tryz.results62,go_sem]) rfl ⟨rfl,?_⟩
    repeat (with_reducible refine yZ ?_ b_38 _)
    exact((uX w).alloc _).alloc _
   ·have he':(yi == id)=false:=by simpa using he
    have Hy:=uZ (HN.out he)
    clear he HS HN M
    exact c_64
  ·have hltz:¬ (k:Int)<(l.length:Int):=by omega
   have hO:=HF2.out (fun j hj=>M.out j hj b_37)
   subst hO
   clear HF1 HF2 M
   go_wp2
   refine bodyPost_ret (v:=.tuple #[.agg #[.int .i64 0,.int .i64 0,.int .i64 0,.string ⟨#[]⟩,.string ⟨#[]⟩],.bool false]) (by simp[results,Tryz.results62,go_sem]) rfl ⟨rfl,?_⟩
   repeat (with_reducible refine yZ ?_ b_38 _)
   exact((uX w).alloc _).alloc _
end Go.Proofs.YtafncfomiolmgaaGreatDoor
namespace Go.Proofs.YtafncfomiolmgaaGreatDoor
open Go.RowKit
theorem part_to {P:Program} {t e:TypeId} {i:TypeInfo} (ht:P.underlying t=some (.slice e)) (hi:P.info? e=some i) (A:Option Addr) (n c k:Nat) (hk:k≤n) (hn:n≤c) :
  ∀ W,(Instr.slice t (.slice A n c) none (some (.int .i64 (k:Int))) none).run P W=.ok (.slice A k c) W:=by
 intro W
 have h0:(0:Int)≤(k:Int):=by omega
 have h1:k≤c:=by omega
 have h2:(k:Int)≤(c:Int):=by omega
 have ha:A.map (fun a=>a.add 0)=A:=by cases A<;>simp[Addr.add]
 simp[Instr.slice,run_underlying ht,Instr.sliceBounds,run_sliceBound,h2,sizeOf,typeInfo,hi,ha]
def sufV (A:Option Addr) (n c k size:Nat):Value:=.slice (if c=k then A else A.map (·.add (k*size))) (n-k) (c-k)
theorem part_from {P:Program} {t e:TypeId} {i:TypeInfo} {size:Nat} (ht:P.underlying t=some (.slice e)) (hi:P.info? e=some i) (hsize:i.size=size) (A:Option Addr) (n c k:Nat) (hk:k≤n) :
  ∀ W,(Instr.slice t (.slice A n c) (some (.int .i64 (k:Int))) none none).run P W=.ok (sufV A n c k size) W:=by
 intro W
 subst hsize
 have h0:(0:Int)≤(k:Int):=by omega
 have h2:(k:Int)≤(n:Int):=by omega
 simp[Instr.slice,run_underlying ht,Instr.sliceBounds,run_sliceBound,h2,sizeOf,typeInfo,hi,sufV]
theorem preV_rd {W:World} {size n c k:Nat} {A:Option Addr} {cs:List Value} (h:Rd W size (.slice A n c) cs) (hk:k≤n):Rd W size (.slice A k c) (cs.take (k*size)):=by
 obtain⟨A',n',c',hv,hl,hn,hc,hr⟩:=h
 obtain⟨rfl,rfl,rfl⟩:=Value.slice.inj hv
 have hm:k*size≤n*size:=Nat.mul_le_mul_right _ hk
 refine⟨A,k,c,rfl,by rw[List.length_take];omega,by omega,hc,fun h0=>?_⟩
 obtain⟨b,off,hA,hb,hcell⟩:=hr b_37
 refine⟨b,off,hA,hb,fun j u hu=>?_⟩
 rw[List.getElem?_take] at hu
 split at hu
 ·exact hcell j u hu
 ·cases hu
theorem sufV_rd {W:World} {size n c k:Nat} {A:Option Addr} {cs:List Value} (h:Rd W size (.slice A n c) cs) (hk:k≤n):Rd W size (sufV A n c k size) (cs.drop (k*size)):=by
 obtain⟨A',n',c',hv,hl,hn,hc,hr⟩:=h
 obtain⟨rfl,rfl,rfl⟩:=Value.slice.inj hv
 have hm:k*size≤n*size:=Nat.mul_le_mul_right _ hk
 refine⟨_,n-k,c-k,rfl,by rw[List.length_drop,hl,Nat.sub_mul],by omega,by omega,fun h0=>?_⟩
 obtain⟨b,off,rfl,hb,hcell⟩:=hr b_37
 refine⟨b,off+k*size,?_,hb,fun j u hu=>?_⟩
 ·rw[if_neg b_37,Option.map_some,add_lit]
 ·rw[List.getElem?_drop] at hu
  rw[Nat.add_assoc]
  exact hcell _ u hu
theorem own_lit {W:World} {base size:Nat} {e:TypeId} (H:Nat) (hH:W.heap.size=H) (hb:base≤H):(W.alloc (.cells #[] e)).ownsRow base e size (.slice (some ⟨H,0,none⟩) 0 0) 0 []:=by
 subst hH
 exact World.ownsRow_made W #[] 0 hb (Nat.zero_le _) b_38
theorem rd_lit {W:World} {size:Nat} {e:TypeId} (cs:List Value) (hl:cs.length=size) (H:Nat) (hH:W.heap.size=H):Rd (W.alloc (.cells cs.toArray e)) size (.slice (some ⟨H,0,none⟩) 1 1) cs:=by
 subst hH
 exact Rd.fresh W e size 1 cs b_37 b_34
theorem rd_block {W:World} {size:Nat} {cs:List Value} {H n:Nat} (hl:cs.length=n*size) (hn:n≤maxLen) (hb:H<W.heap.size) (h:∀ j u,cs[j]? = some u→W.cell? ⟨H,j,none⟩=some u):Rd W size (.slice (some ⟨H,0,none⟩) n n) cs :=
 ⟨_,n,n,rfl,hl,Nat.le_refl _,hn,fun _=>⟨H,0,rfl,hb,fun j u hu=>by rw[Nat.zero_add];exact h j u hu⟩⟩
theorem stepZ {P:Program} {ops:Array Oper} {o:Oper} {a:Act} {K:Act→World→Prop} {Q:Exit→Act→World→Prop} {E:Prop} (hgd:o.guard=none) (s x:Operand) (t:TypeId)
  (ho:o.op=.call { callee:=.builtin .append,args:=#[s,x],argTypes:=#[t,t] })
  (w0:World) (e:TypeId) (i:TypeInfo) (z:Value) (size bytes:Nat) (ht:P.underlying t=some (.slice e)) (hi:P.info? e=some i) (hz:i.zero=some z)
  (hsize:i.size=size) (hby:i.bytes=bytes) (hzs:z.cells.size=size) (hsz:0<size)
  (v:Value) (n:Nat) (xs:List Value) (hs:a.eval s=v) (wr:World) (hown:wr.ownsRow w0.heap.size e size v n xs) (hg:Grew w0 wr)
  (u:Value) (m:Nat) (cs:List Value) (hx:a.eval x=u) (hu:Rd wr size u cs) (hl:cs.length=m*size) (h1:∀ u∈cs,u.oneCell'=true)
  (h63:n+m≤maxLen) (hbytes:(n+m)*bytes≤140737488355328)
  (h:∀ v' w',w'.ownsRow w0.heap.size e size v' (n+m) (xs++cs)→Grew w0 w'→(∀ p x,wr.cell? p=some x→some p.block≠v.ownBlock→w'.cell? p=some x)→wr.heap.size≤w'.heap.size→K (a.put o.dst v') w'):if Region.wanted o (yielded ops a.tmps)=true then Oper.wp P o a wr K Q else E:=by
 have hw:Region.wanted o (yielded ops a.tmps)=true:=by simp[Region.wanted,hgd]
 rw[if_pos hw]
 obtain⟨A,m',c,rfl,hl',hmc,_,hr⟩:=hu
 obtain rfl:m'=m:=Nat.eq_of_mul_eq_mul_right hsz (hl'.symm.trans hl)
 cases A with
 | none =>
  have hm0:m'=0:=by
   rcases Nat.eq_zero_or_pos m' with h0|h0
   ·exact h0
   ·obtain⟨b,off,hA,_⟩:=hr h0
    cases hA
  subst hm0
  have hcs:cs=[]:=List.eq_nil_of_length_eq_zero b_37
  subst hcs
  have hrun:=run_append_none wr w0.heap.size t o.type e i size ht hi v n xs hown c
  unfold Oper.wp execOp
  simp only [ho,resolve,invoke,builtin,Sem.run_bind,Sem.run_pure,Result.andThen_ok,List.map_toArray,List.map_cons,List.map_nil,hs,hx,hrun]
  exact h v wr (by simpa using hown) hg (fun p x hp _=>hp) (Nat.le_refl _)
 | some ad =>
  refine wp_append_own wr s x t ho w0.heap.size e i z size bytes ht hi hz hsize hby hzs hsz v n xs hs hown ad m' c cs hx hl ?_ h1 h63 hbytes hg.size ?_
  ·intro j u hu
   have hj:=(List.getElem?_eq_some_iff.1 hu).1
   have h0:0<m':=by
    rcases Nat.eq_zero_or_pos m' with h0|h0
    ·subst h0;omega
    ·exact h0
   obtain⟨b,off,hA,_,hcell⟩:=hr h0
   cases hA
   rw[add_lit]
   exact hcell j u hu
  ·intro v' w' h2 h3 _
   exact h v' w' h2 (Below.grown hg h3 hg.size (fun k hk=>(hown.lt k hk).1)) (fun p x hp hne=>h3.cell hp hne) h3.size
theorem insU_at (n:Int):∀(l:List Int) (k:Nat),k≤l.length→(∀ j (h:j<l.length),j<k→l[j]<n)→(∀ h:k<l.length,n<l[k])→insU n l=l.take k++n::l.drop k
 | [],k,hk,_,_=>by
  obtain rfl:k=0:=by simpa using hk
  rfl
 | x::r,0,_,_,h2=>by
  have h:=h2 b_38
  simp only [List.getElem_cons_zero] at h
  rw[insU,if_neg b_37,if_neg b_37]
  rfl
 | x::r,k+1,hk,h1,h2=>by
  have h:=h1 0 b_38 b_37
  simp only [List.getElem_cons_zero] at h
  rw[insU,if_pos h,insU_at n r k (by simpa using hk) (fun j hj hjk=>by have:=h1 (j+1) (by simpa using hj) b_37;simpa using this) (fun hj=>by have:=h2 (by simpa using hj);simpa using this)]
  rfl
theorem insU_in (n:Int):∀(l:List Int) (k:Nat) (hk:k<l.length),(∀ j (h:j<l.length),j<k→l[j]<n)→l[k]=n→insU n l=l
 | [],_,hk,_,_=>absurd hk (Nat.not_lt_zero _)
 | x::r,0,_,_,h2=>by
  simp only [List.getElem_cons_zero] at h2
  rw[insU,if_neg b_37,if_pos h2]
 | x::r,k+1,hk,h1,h2=>by
  have h:=h1 0 b_38 b_37
  simp only [List.getElem_cons_zero] at h
  rw[insU,if_pos h,insU_in n r k (by simpa using hk) (fun j hj hjk=>by have:=h1 (j+1) (by simpa using hj) b_37;simpa using this) (by simpa using h2)]
end Go.Proofs.YtafncfomiolmgaaGreatDoor
namespace Go.Proofs.YtafncfomiolmgaaGreatDoor
open Go.RowKit
set_option maxHeartbeats 2000000 in
theorem tKnownNo (rs:List Int) (l:List Br) (rv bv kv:Value) (w:World) (hE:Env w) (hr:SlI w rv rs) (hv:SlBr w bv l) (hf:FewBr l) (hrl:rs.length≤1000000) (hT:¬ RightT ⟨rs,l⟩) :
  Calls Tryz.prog 117 #[.agg #[rv,bv],kv] w fun e w'=>e=.returned (.int .i64 1)∧Grew w w':=by
 have KR:=uZ (fun W (hW:Grew w W)=>tRight rs l rv bv W (hE.mono hW) (hr.mono hW) (hv.mono hW) hf hrl)
 have HT:=uZ hT
 clear hE hr hv hf hrl hT
 go_enter Tryz.func117,Tryz.ntmps117
 go_wp2_with fail
 refine(KR.out _ ((uX w).alloc _)).mono ?_
 rintro e w1 ⟨bb,rfl,hbb,g1⟩
 obtain rfl:bb=false:=by
  cases bb
  ·rfl
  ·exact absurd (hbb.1 rfl) HT.out
 have HG1:=uZ g1
 clear hbb g1
 dsimp only
 go_wp2
 go_ret
 exact⟨rfl,((uX w).alloc _).trans HG1.out⟩
def topR (l:List Br) (id:Int):Int:=if id=0 then 0 else knownF l [id]
set_option maxHeartbeats 2000000 in
theorem tOrTop (rs:List Int) (l:List Br) (id:Int) (rv bv:Value) (w:World) (hE:Env w) (hr:SlI w rv rs) (hv:SlBr w bv l) (hf:FewBr l) (hrl:rs.length≤1000000) (n:Int) (hn:(¬ RightT ⟨rs,l⟩→n=1)∧(RightT ⟨rs,l⟩→n=topR l id)) :
  Calls Tryz.prog 73 #[.agg #[rv,bv],.int .i64 id] w fun e w'=>e=.returned (.int .i64 n)∧Grew w w':=by
 have hfr:∀ W:World,SlI (W.alloc (.cells #[.int .i64 id] 3)) (.slice (some ⟨W.heap.size,0,none⟩) 1 1) [id]:=fun W=>Rd.fresh W _ 1 1 [.int .i64 id] rfl b_36
 have hK:∀ W kv ids,Grew w W→SlI W kv ids→(ids=[]∧id=0∨ids=[id]∧id≠0)→Calls Tryz.prog 117 #[.agg #[rv,bv],kv] W fun e w'=>e=.returned (.int .i64 n)∧Grew W w':=by
  intro W kv ids hW hk hi
  by_cases hT:RightT ⟨rs,l⟩
  ·have h1:=tKnown rs l ids rv bv kv W (hE.mono hW) (hr.mono hW) (hv.mono hW) hk hf hrl hT
   have h2:knownF l ids=n:=by
    rw[hn.2 hT]
    unfold topR
    rcases hi with ⟨rfl,h⟩|⟨rfl,h⟩
    ·rw[if_pos h]
     rfl
    ·rw[if_neg h]
   rw[h2] at h1
   exact h1
  ·have h1:=tKnownNo rs l rv bv kv W (hE.mono hW) (hr.mono hW) (hv.mono hW) hf hrl hT
   rw[hn.1 hT]
   exact h1
 have KK:=uZ hK
 have HFR:=uZ hfr
 clear hE hr hv hf hrl hK hfr hn
 by_cases h0:id=0
 ·subst h0
  go_enter Tryz.func73,Tryz.ntmps73
  go_wp2_with fail
  refine(KK.out _ _ [] ((uX w).alloc _) (SlI.nil _) (.inl b_38)).mono ?_
  rintro e w1 ⟨rfl,g1⟩
  dsimp only
  go_wp2
  go_ret
  exact⟨rfl,((uX w).alloc _).trans g1⟩
 ·have h0':(id == 0)=false:=by simpa using h0
  have H0:=uZ h0
  clear h0
  go_enter Tryz.func73,Tryz.ntmps73
  go_wp2_with fail
  refine(KK.out _ _ [id] (((uX w).alloc _).alloc _) (by have:=HFR.out (w.alloc (.cells #[rv,bv] 35));simpa using this) (.inr ⟨rfl,H0.out⟩)).mono ?_
  rintro e w1 ⟨rfl,g1⟩
  dsimp only
  go_wp2
  go_ret
  exact⟨rfl,(((uX w).alloc _).alloc _).trans g1⟩
theorem tKids0 (rs:List Int) (l:List Br) (id:Int) (rv bv:Value) (w0 w:World) (hr:SlI w0 rv rs) (hv:SlBr w0 bv l) (hg:Grew w0 w) (hf:l.length≤1000000) (hT:RightT ⟨rs,l⟩) (hid:id=0∨∃ b,brFind l id=some b) :
  Calls Tryz.prog 74 #[.agg #[rv,bv],.int .i64 id] w fun e w'=>∃ v,e=.returned v∧SlI w0 v (childs ⟨rs,l⟩ id)∧Grew w w':=by
 unfold childs
 by_cases h0:id=0
 ·subst h0
  rw[if_pos rfl]
  have HR:=uZ hr
  obtain⟨B,d,rfl,-,-,-⟩:=hr.open_
  clear hr hv hg hid
  go_enter Tryz.func74,Tryz.ntmps74
  go_wp2
  go_ret
  exact⟨_,rfl,HR.out,(uX w).alloc _⟩
 ·obtain⟨b,hb⟩:=hid.resolve_left h0
  rw[if_neg h0]
  obtain⟨k,hk,_,e⟩:=brIdx_some hb
  have hidk:l[k].id=id:=by
   rw[e]
   exact(find_in hb).2
  obtain⟨h1,h2⟩:=at_some hT.2.1 id k hk hidk
  have kA:=fun W (hW:Grew w W)=>tAt l id rv bv W (hv.mono (hg.trans hW)) hf (cmpId_mono hT.2.1 id)
  rw[h1,h2] at kA
  have KA:=uZ kA
  obtain⟨A,c,rfl,hlc,hc,hrr⟩:=hv.open_
  unfold maxLen at hc
  obtain⟨bb,off,rfl,hbk,hcell⟩:=hrr b_37
  obtain⟨kv,hkv,hcl⟩:=hcell k hk
  have HKV:RowKit.Hid (SlI w0 kv (match brFind l id with|none=>[]|some b=>b.kids)):=by
   rw[hb]
   rw[e] at hkv
   exact hkv
  show Calls Tryz.prog 74 #[.agg #[rv,.slice (some ⟨bb,off,none⟩) l.length c],.int .i64 id] w fun e w'=>∃ v,e=.returned v∧SlI w0 v (match brFind l id with|none=>[]|some b=>b.kids)∧Grew w w'
  generalize (match brFind l id with|none=>[]|some b=>b.kids)=K at HKV ⊢
  have hcl5:∀ W,Grew w0 W→W.cell? ⟨bb,off+k*6+5,none⟩=some kv:=fun W hW=>(hcl W hW).2.2.2.2.2
  have HC:=uZ hcl5
  have HG:=uZ hg
  have h0':(id == 0)=false:=by simpa using h0
  have hkz:(k:Int)<(l.length:Int):=by omega
  have h0z:(0:Int)≤(k:Int):=by omega
  obtain⟨Az,cz,rfl,-,-,-⟩:=hkv.open_
  clear hr hv hg hid hb e h1 h2 kA hrr hcell hcl hcl5 hkv hT h0 hidk
  go_enter Tryz.func74,Tryz.ntmps74
  go_wp2_with fail
  refine(KA.out _ ((uX w).alloc _)).mono ?_
  rintro e w1 ⟨rfl,g1⟩
  have b0:=yQ g1 0 _ rfl
  have b1:=yQ g1 1 _ rfl
  have HG1:=uZ (((uX w).alloc _).trans g1)
  have c5:=HC.out w1 (HG.out.trans HG1.out)
  clear g1
  dsimp only
  go_wp2
  go_ret
  exact⟨_,rfl,HKV.out,HG1.out⟩
open Classical in
noncomputable def kidsR (t:Tr) (id:Int):List Int × Int:=if RightT t then(if topR t.brs id=0 then(childs t id,0) else([],topR t.brs id)) else([],1)
theorem top_found {l:List Br} {id:Int} (h:topR l id=0):id=0∨∃ b,brFind l id=some b:=by
 unfold topR at h
 by_cases h0:id=0
 ·exact .inl h0
 ·rw[if_neg h0] at h
  unfold knownF at h
  cases hb:brFind l id with
  | none=>simp[hb] at h
  | some b=>exact .inr ⟨b,rfl⟩
def RetIs (r:List Int × Int) (w:World) (e:Ending) (w':World):Prop:=∃ v,e=.returned (.tuple #[v,.int .i64 r.2])∧SlI w' v r.1∧Grew w w'
set_option maxHeartbeats 2000000 in
theorem tKidsX (rs:List Int) (l:List Br) (id:Int) (rv bv:Value) (w:World) (hE:Env w) (hr:SlI w rv rs) (hv:SlBr w bv l) (hf:FewBr l) (hrl:rs.length≤1000000) :
  Calls Tryz.prog 29 #[.agg #[rv,bv],.int .i64 id] w (RetIs (kidsR ⟨rs,l⟩ id) w):=by
 have hO:=fun W (hW:Grew w W) n hn=>tOrTop rs l id rv bv W (hE.mono hW) (hr.mono hW) (hv.mono hW) hf hrl n hn
 have hKI:=fun W (hW:Grew w W) hT hid=>tKids0 rs l id rv bv w W hr hv hW hf.1 hT hid
 have hlen:∀ v,RightT ⟨rs,l⟩→SlI w v (childs ⟨rs,l⟩ id)→(childs ⟨rs,l⟩ id).length*8≤140737488355328:=fun v hT hs=>by
  have hb:(childs ⟨rs,l⟩ id).length≤1000000:=by
   unfold childs
   by_cases h0:id=0
   ·rw[if_pos h0];exact hrl
   ·rw[if_neg h0]
    show(match brFind l id with|none=>[]|some b=>b.kids).length≤1000000
    cases hb:brFind l id with
    | none=>simp
    | some b =>
     obtain⟨k,hk,e⟩:=List.mem_iff_getElem.1 (find_in hb).1
     have:=hf.2 k hk
     rw[e] at this
     exact this
  omega
 by_cases hT:RightT ⟨rs,l⟩
 ·have hn:(¬ RightT ⟨rs,l⟩→topR l id=1)∧(RightT ⟨rs,l⟩→topR l id=topR l id):=⟨fun h=>absurd hT h,fun _=>rfl⟩
  have KO:=uZ (fun W hW=>hO W hW _ hn)
  have KI:=uZ (fun W hW h=>hKI W hW hT h)
  have HL:=uZ (fun v=>hlen v hT)
  by_cases hz:topR l id=0
  ·have hres:kidsR ⟨rs,l⟩ id=(childs ⟨rs,l⟩ id,0):=by
    unfold kidsR
    rw[if_pos hT,if_pos hz]
   have HF:=uZ (top_found hz)
   rw[hres]
   rw[hz] at KO
   generalize childs ⟨rs,l⟩ id=K at KI HL ⊢
   clear hE hr hv hf hrl hO hKI hlen hn hz hres hT
   go_enter Tryz.func29,Tryz.ntmps29
   go_wp2_with fail
   refine(KO.out _ ((uX w).alloc _)).mono ?_
   rintro e w1 ⟨rfl,g1⟩
   have b0:=yQ g1 0 _ rfl
   have b1:=yQ g1 1 _ rfl
   have HG1:=uZ (((uX w).alloc _).trans g1)
   clear g1
   dsimp only
   go_wp2_with fail
   refine(KI.out _ HG1.out HF.out).mono ?_
   rintro e w2 ⟨v2,rfl,s2,g2⟩
   have HG2:=uZ (HG1.out.trans g2)
   have HCL:=uZ (cloneI K v2 w2 (s2.mono HG2.out) (HL.out v2 s2))
   clear s2 g2 b0 b1
   dsimp only
   go_wp2_with fail
   refine HCL.out.mono ?_
   rintro e w3 ⟨v3,rfl,ho,g3⟩
   have HS:=uZ (show SlI w3 v3 K from Rd.of_own ho)
   clear ho
   dsimp only
   go_wp2
   go_ret2
   exact⟨_,rfl,HS.out,HG2.out.trans g3⟩
  ·have hres:kidsR ⟨rs,l⟩ id=([],topR l id):=by
    unfold kidsR
    rw[if_pos hT,if_neg hz]
   rw[hres]
   generalize topR l id=n at hz KO
   have hz':(n != 0)=true:=by simpa using hz
   clear hE hr hv hf hrl hO hKI hlen hn hz hres hT KI HL
   go_enter Tryz.func29,Tryz.ntmps29
   go_wp2_with fail
   refine(KO.out _ ((uX w).alloc _)).mono ?_
   rintro e w1 ⟨rfl,g1⟩
   dsimp only
   go_wp2
   go_ret2
   exact⟨_,rfl,SlI.nil _,((uX w).alloc _).trans g1⟩
 ·have hres:kidsR ⟨rs,l⟩ id=([],1):=by
   unfold kidsR
   rw[if_neg hT]
  have KO:=uZ (fun W hW=>hO W hW 1 ⟨fun _=>rfl,fun h=>absurd h hT⟩)
  rw[hres]
  clear hE hr hv hf hrl hO hKI hlen hres hT
  go_enter Tryz.func29,Tryz.ntmps29
  go_wp2_with fail
  refine(KO.out _ ((uX w).alloc _)).mono ?_
  rintro e w1 ⟨rfl,g1⟩
  dsimp only
  go_wp2
  go_ret2
  exact⟨_,rfl,SlI.nil _,((uX w).alloc _).trans g1⟩
end Go.Proofs.YtafncfomiolmgaaGreatDoor