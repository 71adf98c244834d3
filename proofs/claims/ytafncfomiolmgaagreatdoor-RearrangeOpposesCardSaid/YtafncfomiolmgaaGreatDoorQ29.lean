/- Lemmas on what the functions of the program and of the library compute: Lcp. The conditions stand at each. -/
import Derived.Test.YtafncfomiolmgaaGreatDoorQ8
import Derived.Test.YtafncfomiolmgaaGreatDoorQ25
import Derived.Test.YtafncfomiolmgaaGreatDoorQ28
namespace Go.Proofs.YtafncfomiolmgaaGreatDoor
open Go.RowKit
theorem Half.out {w0 w:World} {rv bv x y:Value} {cs:List BrC} {t:Tr} {R:Nat} {c:Array Value} (h:Half w0 rv bv cs t t.brs.length w) (hR:w.heap[R]? = some (.cells c 35 (0,0))):TrOk ((w.setCell ⟨R,0,none⟩ x).setCell ⟨R,1,none⟩ y) rv bv t:=by
 have hR2:=heap_setCell_same w R 0 c 35 x hR
 have key:∀ {b:Nat} {v:Value} {l:List Int},OwnI b w v l→OwnI b ((w.setCell ⟨R,0,none⟩ x).setCell ⟨R,1,none⟩ y) v l:=fun ho=>by
  have h1:=ownsRow_setCell_other (a:=⟨R,0,none⟩) ho (own_ne (g:=R) ho hR ne_IT) x
  exact ownsRow_setCell_other (a:=⟨R,1,none⟩) h1 (own_ne (g:=R) h1 hR2 ne_IT) y
 have hb1:=ownsRow_setCell_other (a:=⟨R,0,none⟩) h.brs (own_ne (g:=R) h.brs hR ne_BT) x
 have hb2:=ownsRow_setCell_other (a:=⟨R,1,none⟩) hb1 (own_ne (g:=R) hb1 hR2 ne_BT) y
 exact⟨Rd.of_own (key h.roots),cs,Rd.of_own hb2,h.len,fun i hi hi'=>⟨(h.each i hi hi').1,Rd.of_own (key ((h.each i hi hi').2.2 hi'))⟩⟩
theorem frz_of {w:World} {X:Nat} {c:Array Value} {t:TypeId} (h:w.heap[X]? = some (.cells c t (0,0))) (j:Nat):w.frozen? ⟨X,j,none⟩=false:=by simp[World.frozen?,h]
set_option maxHeartbeats 8000000 in
set_option maxRecDepth 100000 in
theorem cpTr (t:Tr) (rv bv:Value) (w:World) (hr:SlI w rv t.roots) (hv:SlBr w bv t.brs) (hf:FewBr t.brs) (hrl:t.roots.length≤1000000) :
  Calls Tryz.prog 19 #[.agg #[rv,bv]] w (RetT t w):=by
 obtain⟨cs,hB,hcl,hok⟩:=hv
 have h1c:∀ c∈cs,c.kv.oneCell'=true:=by
  intro c hc
  obtain⟨i,hi,rfl⟩:=List.mem_iff_getElem.1 hc
  exact slI_one (hok i hi b_37).2
 have hfl:=hf.1
 have KR:=uZ (fun W (hW:Grew w W)=>cloneI t.roots rv W (hr.mono hW) b_37)
 have KB:=uZ (fun W (hW:Grew w W)=>cloneB cs bv W (hB.mono hW) h1c b_37)
 have HOK:=uZ hok
 have HFK:=uZ (fun k (hk:k<t.brs.length)=>hf.2 k hk)
 obtain⟨Ar,cr,rfl,-⟩:=SlI.open_ hr
 obtain⟨Ab,cb,hbv,-⟩:=SlB.open_ hB
 rw[hcl] at hbv
 subst hbv
 have HCL:=uZ hcl
 clear hr hB h1c hok hf hrl hcl
 have GA:=uZ (((uX w).alloc (.cells #[.slice Ar t.roots.length cr,.slice Ab t.brs.length cb] 35)).alloc (.cells #[.slice none 0 0,.slice none 0 0] 35))
 have hXA:=uK ((uX (w.alloc (.cells #[.slice Ar t.roots.length cr,.slice Ab t.brs.length cb] 35))).alloc (.cells #[.slice none 0 0,.slice none 0 0] 35)) (heap_allocE (a:=w) (X:=w.heap.size) rfl)
 have hRA:=heap_allocE (a:=w.alloc (.cells #[.slice Ar t.roots.length cr,.slice Ab t.brs.length cb] 35)) (X:=w.heap.size+1) (p:=.cells #[.slice none 0 0,.slice none 0 0] 35) b_38
 go_enter Tryz.func19,Tryz.ntmps19
 go_wp2_with fail
 generalize (w.alloc (.cells #[.slice Ar t.roots.length cr,.slice Ab t.brs.length cb] 35)).alloc (.cells #[.slice none 0 0,.slice none 0 0] 35)=WA at hXA hRA GA ⊢
 have b0:WA.cell? ⟨w.heap.size,0,none⟩=some (.slice Ar t.roots.length cr):=by simp[World.cell?,hXA]
 have b1:WA.cell? ⟨w.heap.size,1,none⟩=some (.slice Ab t.brs.length cb):=by simp[World.cell?,hXA]
 have HXA:=uZ hXA
 have HRA:=uZ hRA
 clear hXA hRA
 go_cut [1] from 4 to 12 (fun s1 wx=>EditCut w t cs s1 wx∧wx.heap[w.heap.size+1]? = some (.cells #[.slice none 0 0,.slice none 0 0] 35 (0,0)))
 case first =>
  as_aux_lemma =>
  go_region_with (first|(go_at_call 32;refine(KR.out _ (by repeat (first|exact GA.out|refine uJ ?_))).mono ?_;rintro e w1 ⟨v1,rfl,ho1,g1⟩;have HO1:=uZ (World.ownsRow.mono (base':=w.heap.size) ho1 (Grew.size (by repeat (first|exact GA.out|refine uJ ?_))));have GB1:=uZ (show Grew WA w1 from uY (by repeat (first|exact uX WA|refine uJ ?_)) g1);have x10:=uQ GB1.out b0;have x11:=uQ GB1.out b1;obtain⟨A1,c1,rfl⟩:=own_slice ho1;clear ho1 g1)|(go_at_call 54;refine(KB.out _ (GA.out.trans GB1.out)).mono ?_;rintro e w2 ⟨v2,rfl,ho2,g2⟩;have HO2:=uZ (World.ownsRow.mono (base':=w.heap.size) ho2 (Grew.size (GA.out.trans GB1.out)));have GX2:=uZ g2;have GB2:=uZ (GB1.out.trans g2);have x20:=uQ g2 x10;have x21:=uQ g2 x11;obtain⟨A2,c2,rfl⟩:=own_slice ho2;have z20:=frz_of (uK GB2.out HXA.out) 0;have z21:=frz_of (uK GB2.out HXA.out) 1;clear ho2 g2))
  all_goals go_wp2_with fail
  all_goals go_meet
  all_goals exact⟨edit_meet (uK GB2.out HXA.out) (Nat.le_refl _) (GA.out.trans GB2.out) HO1.out GX2.out HO2.out (uX _),heap_set _ _ (heap_set _ _ (uK GB2.out HRA.out) b_38) b_38⟩
 case rest =>
  as_aux_lemma =>
  obtain⟨⟨X,rv,bv,rfl,hX,ho,hb,hG,hXlo⟩,hR⟩:=hcut
  rw[HCL.out] at hb
  have HS:=uZ (Half.start ho hb HCL.out HOK.out)
  obtain⟨A1,c1,rfl⟩:=own_slice ho
  obtain⟨A2,c2,rfl⟩:=own_slice hb
  have x0:wc.cell? ⟨X,0,none⟩=some (.slice A1 t.roots.length c1):=by simp[World.cell?,hX]
  have x1:wc.cell? ⟨X,1,none⟩=some (.slice A2 t.brs.length c2):=by simp[World.cell?,hX]
  have HX:=uZ hX
  have HRC:=uZ hR
  have HGC:=uZ hG
  clear ho hb hX hG hR b0 b1 GA HOK KR KB HXA HRA
  go_wp2
  clear x0 x1
  go_loopg [15] t.brs.length (fun gg s15 wr=>∃(k:Nat) (ds:List BrC),k≤t.brs.length∧t.brs.length-k≤gg∧s15=.int .i64 k∧Aside (Half w (.slice A1 t.roots.length c1) (.slice A2 t.brs.length c2) ds t k wr)∧Aside (wr.heap[X]? = some (.cells #[.slice A1 t.roots.length c1,.slice A2 t.brs.length c2] 35 (0,0)))∧Aside (wr.heap[w.heap.size+1]? = some (.cells #[.slice none 0 0,.slice none 0 0] 35 (0,0)))∧Aside (Grew w wr))
  case atStart=>exact⟨0,cs,by omega,by omega,rfl,(show Aside _ from HS.out),(show Aside _ from HX.out),(show Aside _ from HRC.out),(show Aside _ from HGC.out)⟩
  case round =>
   clear HS HX HRC HGC hXlo
   obtain⟨k,ds,hkl,hgk,rfl,HH,HX,HRW,GW⟩:=hrel
   have x0:wr.cell? ⟨X,0,none⟩=some (.slice A1 t.roots.length c1):=by have:=HX.out;simp[World.cell?,this]
   have x1:wr.cell? ⟨X,1,none⟩=some (.slice A2 t.brs.length c2):=by have:=HX.out;simp[World.cell?,this]
   by_cases hlt:k<t.brs.length
   ·have hltz:(k:Int)<(t.brs.length:Int):=by omega
    have h0z:(0:Int)≤(k:Int):=by omega
    obtain⟨B,cap,kv,e,hlo,hBs,hkv,hfz,c0,c1',c2',c3,c4,c5⟩:=HH.out.cells hlt
    injection e with e1 _ e2
    subst e1 e2
    have hlk:=HFK.out k hlt
    have KK:=uZ (fun W (hW:Grew w W)=>cloneI t.brs[k].kids kv W (hkv.mono hW) b_37)
    obtain⟨Ak,ck,rfl,-⟩:=SlI.open_ hkv
    have HY:=uZ (fun W v' (hg:Grew wr W) (hv:OwnI wr.heap.size W v' t.brs[k].kids)=>round_meet HH.out hlt GW.out hg hv HX.out)
    have hz5:=hfz (k*6+5)
    have hXB:X≠B:=by
     intro e
     subst e
     obtain⟨c,hc⟩:=own_ty HH.out.brs (g:=X) rfl
     rw[HX.out] at hc
     injection hc with hc
     injection hc with _ hc _
     exact ne_BT hc.symm
    have hRB:wr.heap.size≠B:=by omega
    clear hkv hlk hfz
    generalize t.brs[k]=y at c0 c1' c2' c3 c4 c5 KK HY
    obtain⟨yi,yp,yl,yt,ym,yk⟩:=y
    dsimp only at c0 c1' c2' c3 c4 c5 KK HY
    have hRBk:w.heap.size+1≠B:=by
     intro e
     subst e
     obtain⟨c,hc⟩:=own_ty HH.out.brs (g:=w.heap.size+1) rfl
     rw[HRW.out] at hc
     injection hc with hc
     injection hc with _ hc _
     exact ne_BT hc.symm
    have HRBk:=uZ hRBk
    clear hRBk x0 hRB
    have f5:=hz5
    clear c0 c1' c2' c3 c4 hz5
    go_wp2_with fail
    go_region_with (go_at_call 32;refine(KK.out _ (GW.out.trans (by repeat (first|exact uX wr|refine uJ ?_)))).mono ?_;rintro e w1 ⟨v1,rfl,ho1,g1⟩;have GB1:=uZ (show Grew wr w1 from uY (by repeat (first|exact uX wr|refine uJ ?_)) g1);have HO1:=uZ (World.ownsRow.mono (base':=wr.heap.size) ho1 (Grew.size (by repeat (first|exact uX wr|refine uJ ?_))));obtain⟨A3,c3,rfl⟩:=own_slice ho1;have z1:=uQ GB1.out x1;have z5:=uQ GB1.out c5;have g5:=(GB1.out.frozen (p:=⟨B,k*6+5,none⟩) hBs).trans f5;clear ho1 g1)
    all_goals go_wp2
    all_goals
     go_roundg (t.brs.length-(k+1))
     case measure=>omega
     case rel =>
      obtain⟨ds2,hH2,-,hX2,hG2⟩:=HY.out _ _ GB1.out HO1.out
      exact⟨k+1,ds2,by omega,by omega,by go_num,(show Aside _ from hH2),(show Aside _ from hX2),(show Aside _ from heap_set _ _ (uK GB1.out HRW.out) HRBk.out),(show Aside _ from hG2)⟩
   ·have hltz:¬ (k:Int)<(t.brs.length:Int):=by omega
    obtain rfl:k=t.brs.length:=by omega
    have y0:wr.cell? ⟨w.heap.size+1,0,none⟩=some (.slice none 0 0):=by have:=HRW.out;simp[World.cell?,this]
    have y1:wr.cell? ⟨w.heap.size+1,1,none⟩=some (.slice none 0 0):=by have:=HRW.out;simp[World.cell?,this]
    have z0:=frz_of HRW.out 0
    have z1:=frz_of HRW.out 1
    go_wp2_with fail
    obtain⟨q0,q1⟩:=res_cells (v0:=(.slice A1 t.roots.length c1)) (v1:=(.slice A2 t.brs.length c2)) y0 y1
    refine bodyPost_ret (v:=.agg #[.slice A1 t.roots.length c1,.slice A2 t.brs.length c2]) (by simp[results,Tryz.results19,go_sem,q0,q1]) rfl ?_
    exact⟨_,_,rfl,HH.out.out HRW.out,(GW.out.setCell b_31 _).setCell b_31 _⟩
end Go.Proofs.YtafncfomiolmgaaGreatDoor