/- Lemmas on what the functions of the program and of the library compute: Rg2, Rg3, RF1. The conditions stand at each. -/
import Derived.Test.YtafncfomiolmgaaGreatDoorQ37
import Derived.Test.YtafncfomiolmgaaGreatDoorQ8
import Derived.Test.YtafncfomiolmgaaGreatDoorQ7
import Derived.Deep.CutRange
import Derived.Deep.RegionHeld3
import Derived.Test.YtafncfomiolmgaaGreatDoorQ4
import Derived.Test.YtafncfomiolmgaaGreatDoorQ9
namespace Go.Proofs.YtafncfomiolmgaaGreatDoor
open Go.RowKit
set_option maxRecDepth 100000 in
theorem c_1 {p:Prop} (h:p:=by
 go_wp2_with fail
 refine(KM.out _ HG3.out).mono ?_
 rintro e w5 ⟨rfl,g5⟩
 have G5:=uZ (G3.out.trans g5)
 have HG5:=uZ (GA.out.trans G5.out)
 replace HV3:=uZ (SlI.mono HV3.out g5)
 clear r0 b0 a0 a1 a2 a3 a4 a5 a6 a7 a8 a9 a10 a11 q0 q1 z0 z1 HR g5 KM G3 HG3
 obtain⟨⟨r0,b0,a0,a1,a2,a3,a4,a5,a6,a7,a8,a9,a10,a11⟩,hR⟩:=HB.out _ G5.out
 obtain⟨q0,q1,z0,z1⟩:=res4 hR
 have HR:=uZ hR
 clear hR
 dsimp only
 have HS:=uZ (HB.out w5 G5.out).1
 go_wp2_with fail
 go_cut [12] from 63 to 72 (fun s12 wx=>SetCut w5 (T) s12 wx)
 case first =>
  as_aux_lemma =>
  go_region_held3 (fun W=>W.cell? ⟨w.heap.size,0,none⟩=some (.slice Ar t.roots.length cr)∧W.cell? ⟨w.heap.size,1,none⟩=some (.slice Ab t.brs.length cb)∧W.cell? ⟨w.heap.size+1,0,none⟩=some (.int .i64 i)∧W.cell? ⟨w.heap.size+1,1,none⟩=some (.int .i64 d)∧W.cell? ⟨w.heap.size+1,2,none⟩=some (.int .i64 k)∧W.cell? ⟨w.heap.size+1,3,none⟩=some (.int .i64 u)∧W.cell? ⟨w.heap.size+1,4,none⟩=some (.int .i64 p)∧W.cell? ⟨w.heap.size+1,5,none⟩=some (.int .i64 b)∧W.cell? ⟨w.heap.size+1,6,none⟩=some (.int .i64 l)∧W.cell? ⟨w.heap.size+1,7,none⟩=some (.string tt)∧W.cell? ⟨w.heap.size+1,8,none⟩=some (.string m)∧W.cell? ⟨w.heap.size+1,9,none⟩=some (.int .i64 x9)∧W.cell? ⟨w.heap.size+1,10,none⟩=some (.int .i64 x10)∧W.cell? ⟨w.heap.size+1,11,none⟩=some (.int .i64 x11)) (exact law_grow HS.out (by repeat (first|exact uX _|exact GQ2.out|exact GQ1.out|refine uJ ?_|refine uU ?_ _|refine yZ ?_ (by first|exact Nat.le_refl _|exact GQ2.out.size|exact GQ1.out.size|simp) _))) (first|(go_at_call 102;refine(Kpu.out _ _ (SlI.mono HV3.out b_22)).mono ?_;rintro e wq1 ⟨vq1,rfl,hoq1,gq1⟩;have GQ1:=uZ (show Grew w5 wq1 from uY b_22 gq1);(first|have Na1:=uZ (show Grew (w5.alloc (.cells [.slice none 0 0,.slice none 0 0].toArray 35)) wq1 from uY (uX _).drew gq1)|have Na1:=uZ (show Grew (w5.alloc (.cells [.slice none 0 0,.slice none 0 0].toArray 35)) wq1 from uY (uX _) gq1)|skip);have HVq1:=uZ (show SlI wq1 vq1 PUT from Rd.of_own hoq1);clear hoq1;clear gq1)|(go_at_call 101;refine(Kst.out _ _ (HG5.out.trans b_13) (SlI.mono HVq1.out b_22)).mono ?_;rintro e wq2 ⟨rq2,bq2,rfl,htq2,gq2⟩;have GQ2:=uZ (show Grew w5 wq2 from uY b_13 gq2);have GL2:=uZ (show Grew wq1 wq2 from uY b_22 gq2);(first|have Na2:=uZ (show Grew (wq1.alloc (.cells [.slice none 0 0,.slice none 0 0].toArray 35)) wq2 from uY (uX _).drew gq2)|have Na2:=uZ (show Grew (wq1.alloc (.cells [.slice none 0 0,.slice none 0 0].toArray 35)) wq2 from uY (uX _) gq2)|skip);(try have Pq1:=uK ((Na1.out).trans GL2.out) (heap_allocE (a:=w5) (p:=(.cells [.slice none 0 0,.slice none 0 0].toArray 35)) rfl));(try have pq10:=(zt_facts Pq1).1);(try have pq11:=(zt_facts Pq1).2.1);(try have pq12:=(zt_facts Pq1).2.2.1);(try have pq13:=(zt_facts Pq1).2.2.2);(try have Pq2:=uK (Na2.out) (heap_allocE (a:=wq1) (p:=(.cells [.slice none 0 0,.slice none 0 0].toArray 35)) rfl));(try have pq20:=(zt_facts Pq2).1);(try have pq21:=(zt_facts Pq2).2.1);(try have pq22:=(zt_facts Pq2).2.2.1);(try have pq23:=(zt_facts Pq2).2.2.2);obtain⟨⟨Aq2,nq2,kq2,rfl⟩,Bq2,mq2,lq2,rfl⟩:=slices2 htq2;have HTq2:=uZ htq2;clear htq2;clear gq2))
  all_goals go_wp2_with fail
  all_goals go_meet
  all_goals first|exact set_meet2 GQ2.out HTq2.out|exact set_meet Pq1 (Nat.le_refl _) GQ2.out HTq2.out|exact set_meet Pq2 GQ1.out.size GQ2.out HTq2.out
 case rest =>
  skip
  obtain⟨X,rvS,bvS,rfl,hX,hlo,hT,hgC⟩:=hcut
  obtain⟨wS,hwS⟩:∃ wS,wS=wc:=⟨_,rfl⟩
  subst hwS
  have GC:=uZ (G5.out.trans hgC)
  have HGC:=uZ (HG5.out.trans hgC)
  have HT:=uZ hT
  have HX:=uZ hX
  have HLX:=uZ hlo
  have G5C:=uZ hgC
  obtain⟨cs,hBc,hcl,hok⟩:=hT.2
  have HBC:=uZ hBc
  have HCL:=uZ hcl
  have HOK:=uZ hok
  obtain⟨B4,l4,hbv,hl4,hl4m,-⟩:=SlBr.open_ hT.2
  obtain⟨A4,k4,hrvS,-⟩:=SlI.open_ hT.1
  subst hbv hrvS
  have HBS:=uZ (SlBr.open_ hT.2)
  unfold maxLen at hl4m
  clear hT hgC hlo hX hBc hok HS Kpu Kst hcl
  obtain⟨⟨r0,b0,a0,a1,a2,a3,a4,a5,a6,a7,a8,a9,a10,a11⟩,hR⟩:=HB.out _ GC.out
  obtain⟨q0,q1,z0,z1⟩:=res4 hR
  have HR:=uZ hR
  clear hR
  obtain⟨x0,x1,-,-⟩:=zt_facts4 HX.out
  go_wp2_with fail
  have HBB:=uZ (heap_allocE (a:=wS) (p:=(.cells #[.int .i64 u,.int .i64 p,.int .i64 l,.string tt,.string m,.slice none 0 0] 53)) rfl)
  have GD:=uZ ((uX wS).alloc (.cells #[.int .i64 u,.int .i64 p,.int .i64 l,.string tt,.string m,.slice none 0 0] 53))
  have hBB0:wS.heap.size<(wS.alloc (.cells #[.int .i64 u,.int .i64 p,.int .i64 l,.string tt,.string m,.slice none 0 0] 53)).heap.size:=by simp
  generalize wS.alloc (.cells #[.int .i64 u,.int .i64 p,.int .i64 l,.string tt,.string m,.slice none 0 0] 53)=wD at HBB GD hBB0 ⊢
  generalize wS.heap.size=BB at HBB hBB0 ⊢
  clear r0 b0 a0 a1 a2 a3 a4 a5 a6 a7 a8 a9 a10 a11 q0 q1 z0 z1 HR x0 x1
  go_loopg [14] T.brs.length (fun gg s14 wr=>∃ kk:Nat,kk≤T.brs.length∧T.brs.length-kk≤gg∧s14=.int .i64 kk∧Aside (∀ j (h:j<T.brs.length),j<kk→T.brs[j].id<u)∧Aside (Grew wD wr))
  case atStart=>exact⟨0,by omega,by omega,rfl,(show Aside _ from fun _ _ h=>absurd h (Nat.not_lt_zero _)),(show Aside _ from uX _)⟩
  case round =>
   obtain⟨kk,hkl,hgk,rfl,HK,GW⟩:=hrel
   have HGW:=uZ (GD.out.trans GW.out)
   obtain⟨x0,x1,-,-⟩:=zt_facts4 (uK HGW.out HX.out)
   obtain⟨⟨r0,b0,a0,a1,a2,a3,a4,a5,a6,a7,a8,a9,a10,a11⟩,hR⟩:=HB.out wr (GC.out.trans HGW.out)
   clear r0 b0 a0 a1 a2 a4 a5 a6 a7 a8 a9 a10 a11 hR x0
   by_cases hgo:∃ h:kk<T.brs.length,T.brs[kk].id<u
   ·obtain⟨hlt,hlu⟩:=hgo
    obtain⟨B5,l5,hbv5,hl5,hl5m,hr5⟩:=HBS.out
    obtain⟨-,-,rfl⟩:=Value.slice.inj hbv5
    obtain⟨bb,off,hBB5,hb5,hcell⟩:=hr5 b_37
    obtain rfl:B4=some ⟨bb,off,none⟩:=by rw[← hBB5];exact(Value.slice.inj hbv5).1
    obtain⟨kv,-,hcl5⟩:=hcell kk hlt
    obtain⟨c0,-⟩:=hcl5 wr HGW.out
    have hltz:(kk:Int)<(T.brs.length:Int):=by omega
    have hd:decide (T.brs[kk].id<u)=true:=by simpa using hlu
    have HK2:=uZ (show ∀ j (h:j<T.brs.length),j<kk+1→T.brs[j].id<u from fun j h hj=>(Nat.lt_succ_iff_lt_or_eq.1 hj).elim (fun e=>HK.out j h e) (fun e=>by subst e;exact hlu))
    clear hlu hcell hcl5 hbv5 hr5 hBB5
    generalize T.brs[kk].id=yi at c0 hd
    go_wp2_with fail
    go_quiet (fail)
    go_wp2_with fail
    go_roundg (T.brs.length-(kk+1))
    case measure=>omega
    case rel=>exact⟨kk+1,by omega,by omega,by go_num,(show Aside _ from HK2.out),(show Aside _ from GW.out.drewN _)⟩
   ·have hins2:=Hins.out kk hkl HK.out (fun h=>Int.not_lt.1 (fun h2=>hgo ⟨h,h2⟩))
    have HINS:=uZ hins2
    clear hins2
    go_wp2_with fail
    go_cut [101] from 85 to 101 (fun s101 wx=>s101=.bool false∧Grew wr wx)
    case first =>
     by_cases hlt:kk<T.brs.length
     ·have hd:decide (T.brs[kk].id<u)=false:=by simp only [decide_eq_false_iff_not];exact fun h=>hgo ⟨hlt,h⟩
      obtain⟨B5,l5,hbv5,hl5,hl5m,hr5⟩:=HBS.out
      obtain⟨-,-,rfl⟩:=Value.slice.inj hbv5
      obtain⟨bb,off,hBB5,hb5,hcell⟩:=hr5 b_37
      obtain rfl:B4=some ⟨bb,off,none⟩:=by rw[← hBB5];exact(Value.slice.inj hbv5).1
      obtain⟨kv,-,hcl5⟩:=hcell kk hlt
      obtain⟨c0,-⟩:=hcl5 wr HGW.out
      have hltz:(kk:Int)<(T.brs.length:Int):=by omega
      clear hcell hcl5 hbv5 hr5 hBB5 hgo
      generalize T.brs[kk].id=yi at c0 hd
      go_quiet (fail)
      go_wp2_with fail
      go_meet
      exact⟨rfl,(uX _).drewN _⟩
     ·have hltz:decide ((kk:Int)<(T.brs.length:Int))=false:=by simp only [decide_eq_false_iff_not];omega
      clear hgo
      go_quiet (fail)
      go_wp2_with fail
      go_meet
      exact⟨rfl,(uX _).drewN _⟩
    case rest =>
     obtain⟨rfl,hgx⟩:=hcut
     have GX:=uZ (HGW.out.trans hgx)
     obtain⟨WZ,hWZ⟩:∃ WZ,WZ=wc:=⟨_,rfl⟩
     subst hWZ
     have HXZ:=uZ (uK GX.out HX.out)
     obtain⟨xz0,xz1,fz0,fz1⟩:=zt_facts4 HXZ.out
     have hsix:=six_grow ⟨br_cells HBB.out,uX wD⟩ (GW.out.trans hgx)
     have HSX:=uZ (show _∧_ from⟨hsix.1,uX WZ⟩)
     have hBBZ:BB<WZ.heap.size:=Nat.lt_of_lt_of_le hBB0 (GW.out.trans hgx).size
     clear hgx x1 a3 hgo hsix xz0 hBB0
     have hcl:=HCL.out
     have hkc:kk≤cs.length:=by rw[hcl];exact hkl
     have hsz6:0<6:=by omega
     have e1:=part_to Tryz.underlying33 hi0 B4 T.brs.length l4 kk hkl hl4
     have e2:=part_from Tryz.underlying33 hi0 hz1 B4 T.brs.length l4 kk hkl
     have HP:RowKit.Hid (∀ W,Grew WZ W→Rd W 6 (.slice B4 kk l4) ((cs.take kk).flatMap BrC.cells)):=uZ fun W hW=>by
      have h:=preV_rd (Rd.mono HBC.out (GX.out.trans hW)) hkl
      rw[(flat_take (f:=BrC.cells) (k:=6) (fun _=>rfl) cs kk).1] at h
      exact h
     have HSF:RowKit.Hid (∀ W,Grew WZ W→Rd W 6 (sufV B4 T.brs.length l4 kk 6) ((cs.drop kk).flatMap BrC.cells)):=uZ fun W hW=>by
      have h:=sufV_rd (Rd.mono HBC.out (GX.out.trans hW)) hkl
      rw[(flat_take (f:=BrC.cells) (k:=6) (fun _=>rfl) cs kk).2] at h
      exact h
     generalize sufV B4 T.brs.length l4 kk 6=V2 at e2 HSF
     have HPL:=uZ (show((cs.take kk).flatMap BrC.cells).length=kk*6 by rw[flatMap_len BrC.cells 6 (fun _=>rfl),List.length_take,Nat.min_eq_left hkc])
     have HSL:=uZ (show((cs.drop kk).flatMap BrC.cells).length=(T.brs.length-kk)*6 by rw[flatMap_len BrC.cells 6 (fun _=>rfl),List.length_drop,hcl])
     have hp63:0+kk≤maxLen:=by unfold maxLen;omega
     have hpb:(0+kk)*80≤140737488355328:=by omega
     have hq63:0+kk+1≤maxLen:=by unfold maxLen;omega
     have hqb:(0+kk+1)*80≤140737488355328:=by omega
     have hs63:0+kk+1+(T.brs.length-kk)≤maxLen:=by unfold maxLen;omega
     have hsb:(0+kk+1+(T.brs.length-kk))*80≤140737488355328:=by omega
     have hone:∀ z∈([.int .i64 u,.int .i64 p,.int .i64 l,.string tt,.string m,.slice none 0 0]:List Value),z.oneCell'=true:=by simp[Value.oneCell']
     have HO1:=uZ (fun c (h:c∈cs.take kk)=>ones_of HCL.out HOK.out c (List.mem_of_mem_take h))
     have HO2:=uZ (fun c (h:c∈cs.drop kk)=>ones_of HCL.out HOK.out c (List.mem_of_mem_drop h))
     clear hcl
     go_wp2_with fail
     go_cut [] from 104 to 118 (fun wx=>PutCut w5 X ⟨T.roots,insB (⟨u,p,l,tt,m,[]⟩:Br) T.brs⟩ wx)
     case first =>
      have HSV:=uZ (show _∧_ from⟨HSX.out,xz1⟩)
      refine regionE (S:=(fun W=>((W.cell? ⟨BB,0,none⟩=some (.int .i64 u)∧W.cell? ⟨BB,1,none⟩=some (.int .i64 p)∧W.cell? ⟨BB,2,none⟩=some (.int .i64 l)∧W.cell? ⟨BB,3,none⟩=some (.string tt)∧W.cell? ⟨BB,4,none⟩=some (.string m)∧W.cell? ⟨BB,5,none⟩=some (.slice none 0 0))∧Grew WZ W)∧W.cell? ⟨X,1,none⟩=some (.slice B4 T.brs.length l4))) 15 (by kernel_rfl) (seven_grow HSV.out b_6) (fun hHeld=>?_)
      refine takeE (i:=1) 2 (v:=?_) rfl (by kernel_rfl) (by kernel_rfl) (by kernel_rfl) (by kernel_rfl) (fun _ _ _ h=>h) (Or.inl ⟨by rfl,?_⟩) b_35 ?_
      rotate_left
      ((intro w hSw;(try dsimp only at hSw);go_simp);(try with_reducible rfl))
      try simp only [Act.put,List.setIfInBounds_toArray]
      refine takeE (i:=2) 2 (v:=?_) rfl (by kernel_rfl) (by kernel_rfl) (by kernel_rfl) (by kernel_rfl) (fun _ _ _ h=>h) (Or.inl ⟨by rfl,?_⟩) b_35 ?_
      rotate_left
      ((intro w hSw;(try dsimp only at hSw);go_simp);(try with_reducible rfl))
      try simp only [Act.put]
      refine takeE (i:=3) 2 (v:=?_) rfl (by kernel_rfl) (by kernel_rfl) (by kernel_rfl) (by kernel_rfl) (fun _ _ _ h=>h) (Or.inl ⟨by rfl,?_⟩) b_35 ?_
      rotate_left
      ((intro w hSw;(try dsimp only at hSw);go_simp);(try with_reducible rfl))
      try simp only [Act.put]
      refine takeE (i:=4) 2 (v:=?_) rfl (by kernel_rfl) (by kernel_rfl) (by kernel_rfl) (by kernel_rfl) (fun _ _ _ h=>h) (Or.inl ⟨by rfl,?_⟩) b_35 ?_
      rotate_left
      ((intro w hSw;(try dsimp only at hSw);go_simp);(try with_reducible rfl))
      try simp only [Act.put]
      refine takeE (i:=6) 2 (v:=?_) rfl (by kernel_rfl) (by kernel_rfl) (by kernel_rfl) (by kernel_rfl) (fun _ _ _ h=>h) (Or.inl ⟨by rfl,?_⟩) b_35 ?_
      rotate_left
      ((intro w hSw;(try dsimp only at hSw);go_simp);(try with_reducible rfl))
      try simp only [Act.put]
      refine takeE (i:=9) 2 (v:=?_) rfl (by kernel_rfl) (by kernel_rfl) (by kernel_rfl) (by kernel_rfl) (fun _ _ _ h=>h) (Or.inl ⟨by rfl,?_⟩) b_35 ?_
      rotate_left
      ((intro w hSw;(try dsimp only at hSw);go_simp);(try with_reducible rfl))
      try simp only [Act.put]
      refine takeE (i:=10) 2 (v:=?_) rfl (by kernel_rfl) (by kernel_rfl) (by kernel_rfl) (by kernel_rfl) (fun _ _ _ h=>h) (Or.inl ⟨by rfl,?_⟩) b_35 ?_
      rotate_left
      ((intro w hSw;(try dsimp only at hSw);go_simp);(try with_reducible rfl))
      try simp only [Act.put]
      refine takeE (i:=11) 2 (v:=?_) rfl (by kernel_rfl) (by kernel_rfl) (by kernel_rfl) (by kernel_rfl) (fun _ _ _ h=>h) (Or.inl ⟨by rfl,?_⟩) b_35 ?_
      rotate_left
      ((intro w hSw;(try dsimp only at hSw);go_simp);(try with_reducible rfl))
      try simp only [Act.put]
      refine takeE (i:=12) 2 (v:=?_) rfl (by kernel_rfl) (by kernel_rfl) (by kernel_rfl) (by kernel_rfl) (fun _ _ _ h=>h) (Or.inl ⟨by rfl,?_⟩) b_35 ?_
      rotate_left
      ((intro w hSw;(try dsimp only at hSw);go_simp);(try with_reducible rfl))
      try simp only [Act.put]
      refine readyE (rs:=[0,7]) (by kernel_rfl) b_38 ?_
      refine AllE.cons rfl (fun K hK=>?_) ?_
      ·go_simp
       refine hK.out _ _ (seven_grow HSV.out b_6) (fun hHeld=>?_)
       clear hK K
       try simp only [Act.put,List.setIfInBounds_toArray,List.set_cons_zero,List.set_cons_succ]
       refine readyE (rs:=[5,7]) (by kernel_rfl) b_38 ?_
       refine AllE.cons rfl (fun K hK=>?_) ?_
       ·(refine stepZ (o:=⟨some 109,_,_,_,_,_⟩) b_39 (.tmp 104) (.tmp 108) 33 b_39 WZ 53 i0 (.agg #[.int .i64 0,.int .i64 0,.int .i64 0,.string ⟨#[]⟩,.string ⟨#[]⟩,.slice none 0 0]) 6 80 Tryz.underlying33 hi0 hz0 hz1 hz2 rfl hsz6 _ 0 [] b_39 _ b_11 b_4 _ kk _ b_39 (HP.out _ b_4) HPL.out (one_cellsB _ HO1.out) hp63 hpb ?_;intro v1 w1a o1 g1 q1 z1;have O1:=uZ o1;have G1a:=uZ g1;have X1:=uZ q1;have xa1:=uQ G1a.out xz1;have HXa1:=uZ (uK G1a.out HXZ.out);(try simp at z1);clear o1 g1 q1)
        refine hK.out _ _ (seven_grow HSV.out b_6) (fun hHeld=>?_)
        clear hK K
        try simp only [Act.put,List.setIfInBounds_toArray,List.set_cons_zero,List.set_cons_succ]
        refine readyE (rs:=[7]) (by kernel_rfl) b_38 ?_
        refine AllE.cons rfl (fun K hK=>?_) AllE.nil
        go_simp
        refine hK.out _ _ (seven_grow HSV.out b_6) (fun hHeld=>?_)
        clear hK K
        try simp only [Act.put,List.setIfInBounds_toArray,List.set_cons_zero,List.set_cons_succ]
        refine readyE (rs:=[8]) (by kernel_rfl) b_38 ?_
        refine AllE.cons rfl (fun K hK=>?_) AllE.nil
        (refine stepZ (o:=⟨some 112,_,_,_,_,_⟩) b_39 (.tmp 109) (.tmp 111) 33 b_39 WZ 53 i0 (.agg #[.int .i64 0,.int .i64 0,.int .i64 0,.string ⟨#[]⟩,.string ⟨#[]⟩,.slice none 0 0]) 6 80 Tryz.underlying33 hi0 hz0 hz1 hz2 rfl hsz6 _ (0+kk) ([]++(cs.take kk).flatMap BrC.cells) b_39 _ (by repeat (first|exact O1.out|refine World.ownsRow.alloc ?_ _)) b_4 _ 1 [.int .i64 u,.int .i64 p,.int .i64 l,.string tt,.string m,.slice none 0 0] b_39 b_1 rfl hone hq63 hqb ?_;intro v2 w2a o2 g2 q2 z2;have O2:=uZ o2;have G2a:=uZ g2;have xa2:=uQ G2a.out xz1;have HXa2:=uZ (uK G2a.out HXZ.out);clear o2 g2 q2)
        refine hK.out _ _ (seven_grow HSV.out b_6) (fun hHeld=>?_)
        clear hK K
        try simp only [Act.put,List.setIfInBounds_toArray,List.set_cons_zero,List.set_cons_succ]
        refine readyE (rs:=[13]) (by kernel_rfl) b_38 ?_
        refine AllE.cons rfl (fun K hK=>?_) AllE.nil
        (refine stepZ (o:=⟨some 117,_,_,_,_,_⟩) b_39 (.tmp 112) (.tmp 116) 33 b_39 WZ 53 i0 (.agg #[.int .i64 0,.int .i64 0,.int .i64 0,.string ⟨#[]⟩,.string ⟨#[]⟩,.slice none 0 0]) 6 80 Tryz.underlying33 hi0 hz0 hz1 hz2 rfl hsz6 _ (0+kk+1) ([]++(cs.take kk).flatMap BrC.cells++[.int .i64 u,.int .i64 p,.int .i64 l,.string tt,.string m,.slice none 0 0]) b_39 _ O2.out b_4 _ (T.brs.length-kk) _ b_39 (HSF.out _ b_4) HSL.out (one_cellsB _ HO2.out) hs63 hsb ?_;intro v3 w3a o3 g3 q3 z3;obtain⟨Av3,cv3,rfl⟩:=own_slice o3;generalize 0+kk+1+(T.brs.length-kk)=m3 at o3 ⊢;have O3:=uZ o3;have G3a:=uZ g3;have xa3:=uQ G3a.out xz1;have HXa3:=uZ (uK G3a.out HXZ.out);clear o3 g3 q3)
        refine hK.out _ _ (seven_grow HSV.out b_6) (fun hHeld=>?_)
        clear hK K
        try simp only [Act.put,List.setIfInBounds_toArray,List.set_cons_zero,List.set_cons_succ]
        refine takeE (i:=14) 2 (v:=?_) rfl (by kernel_rfl) (by kernel_rfl) (by kernel_rfl) (by kernel_rfl) (fun _ _ _ h=>h) (Or.inl ⟨by rfl,?_⟩) b_35 ?_
        rotate_left
        ((intro w hSw;(try dsimp only at hSw);go_simp);(try with_reducible rfl))
        try simp only [Act.put]
        refine readyE (rs:=[15]) (by kernel_rfl) b_38 ?_
        refine AllE.last rfl (fun K hK=>?_)
        obtain⟨-,t1,-,t3⟩:=zt_facts4 HXa3.out
        go_simp
        refine hK.out _ _ ?_
        clear hK K
        try simp only [Act.put,List.setIfInBounds_toArray,List.set_cons_zero,List.set_cons_succ]
        refine doneE (by kernel_rfl) ?_ _
        go_wp2_with fail
        go_meet
        exact put1_meet HXa3.out HLX.out (G5C.out.trans (GX.out.trans G3a.out)) (HT.out.mono (GX.out.trans G3a.out)) (cre_done (GX.out.trans G3a.out) HCL.out HOK.out hkl rfl O3.out HINS.out)
       refine AllE.cons rfl (fun K hK=>?_) AllE.nil
       go_simp
       refine hK.out _ _ (seven_grow HSV.out b_6) (fun hHeld=>?_)
       clear hK K
       try simp only [Act.put,List.setIfInBounds_toArray,List.set_cons_zero,List.set_cons_succ]
       refine readyE (rs:=[5]) (by kernel_rfl) b_38 ?_
       refine AllE.cons rfl (fun K hK=>?_) AllE.nil
       (refine stepZ (o:=⟨some 109,_,_,_,_,_⟩) b_39 (.tmp 104) (.tmp 108) 33 b_39 WZ 53 i0 (.agg #[.int .i64 0,.int .i64 0,.int .i64 0,.string ⟨#[]⟩,.string ⟨#[]⟩,.slice none 0 0]) 6 80 Tryz.underlying33 hi0 hz0 hz1 hz2 rfl hsz6 _ 0 [] b_39 _ b_11 b_4 _ kk _ b_39 (HP.out _ b_4) HPL.out (one_cellsB _ HO1.out) hp63 hpb ?_;intro v1 w1a o1 g1 q1 z1;have O1:=uZ o1;have G1a:=uZ g1;have X1:=uZ q1;have xa1:=uQ G1a.out xz1;have HXa1:=uZ (uK G1a.out HXZ.out);(try simp at z1);clear o1 g1 q1)
       refine hK.out _ _ (seven_grow HSV.out b_6) (fun hHeld=>?_)
       clear hK K
       try simp only [Act.put,List.setIfInBounds_toArray,List.set_cons_zero,List.set_cons_succ]
       refine readyE (rs:=[8]) (by kernel_rfl) b_38 ?_
       refine AllE.cons rfl (fun K hK=>?_) AllE.nil
       (refine stepZ (o:=⟨some 112,_,_,_,_,_⟩) b_39 (.tmp 109) (.tmp 111) 33 b_39 WZ 53 i0 (.agg #[.int .i64 0,.int .i64 0,.int .i64 0,.string ⟨#[]⟩,.string ⟨#[]⟩,.slice none 0 0]) 6 80 Tryz.underlying33 hi0 hz0 hz1 hz2 rfl hsz6 _ (0+kk) ([]++(cs.take kk).flatMap BrC.cells) b_39 _ (by repeat (first|exact O1.out|refine World.ownsRow.alloc ?_ _)) b_4 _ 1 [.int .i64 u,.int .i64 p,.int .i64 l,.string tt,.string m,.slice none 0 0] b_39 b_1 rfl hone hq63 hqb ?_;intro v2 w2a o2 g2 q2 z2;have O2:=uZ o2;have G2a:=uZ g2;have xa2:=uQ G2a.out xz1;have HXa2:=uZ (uK G2a.out HXZ.out);clear o2 g2 q2)
       refine hK.out _ _ (seven_grow HSV.out b_6) (fun hHeld=>?_)
       clear hK K
       try simp only [Act.put,List.setIfInBounds_toArray,List.set_cons_zero,List.set_cons_succ]
       refine readyE (rs:=[13]) (by kernel_rfl) b_38 ?_
       refine AllE.cons rfl (fun K hK=>?_) AllE.nil
       (refine stepZ (o:=⟨some 117,_,_,_,_,_⟩) b_39 (.tmp 112) (.tmp 116) 33 b_39 WZ 53 i0 (.agg #[.int .i64 0,.int .i64 0,.int .i64 0,.string ⟨#[]⟩,.string ⟨#[]⟩,.slice none 0 0]) 6 80 Tryz.underlying33 hi0 hz0 hz1 hz2 rfl hsz6 _ (0+kk+1) ([]++(cs.take kk).flatMap BrC.cells++[.int .i64 u,.int .i64 p,.int .i64 l,.string tt,.string m,.slice none 0 0]) b_39 _ O2.out b_4 _ (T.brs.length-kk) _ b_39 (HSF.out _ b_4) HSL.out (one_cellsB _ HO2.out) hs63 hsb ?_;intro v3 w3a o3 g3 q3 z3;obtain⟨Av3,cv3,rfl⟩:=own_slice o3;generalize 0+kk+1+(T.brs.length-kk)=m3 at o3 ⊢;have O3:=uZ o3;have G3a:=uZ g3;have xa3:=uQ G3a.out xz1;have HXa3:=uZ (uK G3a.out HXZ.out);clear o3 g3 q3)
       refine hK.out _ _ (seven_grow HSV.out b_6) (fun hHeld=>?_)
       clear hK K
       try simp only [Act.put,List.setIfInBounds_toArray,List.set_cons_zero,List.set_cons_succ]
       refine takeE (i:=14) 2 (v:=?_) rfl (by kernel_rfl) (by kernel_rfl) (by kernel_rfl) (by kernel_rfl) (fun _ _ _ h=>h) (Or.inl ⟨by rfl,?_⟩) b_35 ?_
       rotate_left
       ((intro w hSw;(try dsimp only at hSw);go_simp);(try with_reducible rfl))
       try simp only [Act.put]
       refine readyE (rs:=[15]) (by kernel_rfl) b_38 ?_
       refine AllE.last rfl (fun K hK=>?_)
       obtain⟨-,t1,-,t3⟩:=zt_facts4 HXa3.out
       go_simp
       refine hK.out _ _ ?_
       clear hK K
       try simp only [Act.put,List.setIfInBounds_toArray,List.set_cons_zero,List.set_cons_succ]
       refine doneE (by kernel_rfl) ?_ _
       go_wp2_with fail
       go_meet
       exact put1_meet HXa3.out HLX.out (G5C.out.trans (GX.out.trans G3a.out)) (HT.out.mono (GX.out.trans G3a.out)) (cre_done (GX.out.trans G3a.out) HCL.out HOK.out hkl rfl O3.out HINS.out)
      refine AllE.cons rfl (fun K hK=>?_) AllE.nil
      go_simp
      refine hK.out _ _ (seven_grow HSV.out b_6) (fun hHeld=>?_)
      clear hK K
      try simp only [Act.put,List.setIfInBounds_toArray,List.set_cons_zero,List.set_cons_succ]
      refine readyE (rs:=[0]) (by kernel_rfl) b_38 ?_
      refine AllE.cons rfl (fun K hK=>?_) AllE.nil
      go_simp
      refine hK.out _ _ (seven_grow HSV.out b_6) (fun hHeld=>?_)
      clear hK K
      try simp only [Act.put,List.setIfInBounds_toArray,List.set_cons_zero,List.set_cons_succ]
      refine readyE (rs:=[5]) (by kernel_rfl) b_38 ?_
      refine AllE.cons rfl (fun K hK=>?_) AllE.nil
      (refine stepZ (o:=⟨some 109,_,_,_,_,_⟩) b_39 (.tmp 104) (.tmp 108) 33 b_39 WZ 53 i0 (.agg #[.int .i64 0,.int .i64 0,.int .i64 0,.string ⟨#[]⟩,.string ⟨#[]⟩,.slice none 0 0]) 6 80 Tryz.underlying33 hi0 hz0 hz1 hz2 rfl hsz6 _ 0 [] b_39 _ b_11 b_4 _ kk _ b_39 (HP.out _ b_4) HPL.out (one_cellsB _ HO1.out) hp63 hpb ?_;intro v1 w1a o1 g1 q1 z1;have O1:=uZ o1;have G1a:=uZ g1;have X1:=uZ q1;have xa1:=uQ G1a.out xz1;have HXa1:=uZ (uK G1a.out HXZ.out);(try simp at z1);clear o1 g1 q1)
      refine hK.out _ _ (seven_grow HSV.out b_6) (fun hHeld=>?_)
      clear hK K
      try simp only [Act.put,List.setIfInBounds_toArray,List.set_cons_zero,List.set_cons_succ]
      refine readyE (rs:=[8]) (by kernel_rfl) b_38 ?_
      refine AllE.cons rfl (fun K hK=>?_) AllE.nil
      (refine stepZ (o:=⟨some 112,_,_,_,_,_⟩) b_39 (.tmp 109) (.tmp 111) 33 b_39 WZ 53 i0 (.agg #[.int .i64 0,.int .i64 0,.int .i64 0,.string ⟨#[]⟩,.string ⟨#[]⟩,.slice none 0 0]) 6 80 Tryz.underlying33 hi0 hz0 hz1 hz2 rfl hsz6 _ (0+kk) ([]++(cs.take kk).flatMap BrC.cells) b_39 _ (by repeat (first|exact O1.out|refine World.ownsRow.alloc ?_ _)) b_4 _ 1 [.int .i64 u,.int .i64 p,.int .i64 l,.string tt,.string m,.slice none 0 0] b_39 b_1 rfl hone hq63 hqb ?_;intro v2 w2a o2 g2 q2 z2;have O2:=uZ o2;have G2a:=uZ g2;have xa2:=uQ G2a.out xz1;have HXa2:=uZ (uK G2a.out HXZ.out);clear o2 g2 q2)
      refine hK.out _ _ (seven_grow HSV.out b_6) (fun hHeld=>?_)
      clear hK K
      try simp only [Act.put,List.setIfInBounds_toArray,List.set_cons_zero,List.set_cons_succ]
      refine readyE (rs:=[13]) (by kernel_rfl) b_38 ?_
      refine AllE.cons rfl (fun K hK=>?_) AllE.nil
      (refine stepZ (o:=⟨some 117,_,_,_,_,_⟩) b_39 (.tmp 112) (.tmp 116) 33 b_39 WZ 53 i0 (.agg #[.int .i64 0,.int .i64 0,.int .i64 0,.string ⟨#[]⟩,.string ⟨#[]⟩,.slice none 0 0]) 6 80 Tryz.underlying33 hi0 hz0 hz1 hz2 rfl hsz6 _ (0+kk+1) ([]++(cs.take kk).flatMap BrC.cells++[.int .i64 u,.int .i64 p,.int .i64 l,.string tt,.string m,.slice none 0 0]) b_39 _ O2.out b_4 _ (T.brs.length-kk) _ b_39 (HSF.out _ b_4) HSL.out (one_cellsB _ HO2.out) hs63 hsb ?_;intro v3 w3a o3 g3 q3 z3;obtain⟨Av3,cv3,rfl⟩:=own_slice o3;generalize 0+kk+1+(T.brs.length-kk)=m3 at o3 ⊢;have O3:=uZ o3;have G3a:=uZ g3;have xa3:=uQ G3a.out xz1;have HXa3:=uZ (uK G3a.out HXZ.out);clear o3 g3 q3)
      refine hK.out _ _ (seven_grow HSV.out b_6) (fun hHeld=>?_)
      clear hK K
      try simp only [Act.put,List.setIfInBounds_toArray,List.set_cons_zero,List.set_cons_succ]
      refine takeE (i:=14) 2 (v:=?_) rfl (by kernel_rfl) (by kernel_rfl) (by kernel_rfl) (by kernel_rfl) (fun _ _ _ h=>h) (Or.inl ⟨by rfl,?_⟩) b_35 ?_
      rotate_left
      ((intro w hSw;(try dsimp only at hSw);go_simp);(try with_reducible rfl))
      try simp only [Act.put]
      refine readyE (rs:=[15]) (by kernel_rfl) b_38 ?_
      refine AllE.last rfl (fun K hK=>?_)
      obtain⟨-,t1,-,t3⟩:=zt_facts4 HXa3.out
      go_simp
      refine hK.out _ _ ?_
      clear hK K
      try simp only [Act.put,List.setIfInBounds_toArray,List.set_cons_zero,List.set_cons_succ]
      refine doneE (by kernel_rfl) ?_ _
      go_wp2_with fail
      go_meet
      exact put1_meet HXa3.out HLX.out (G5C.out.trans (GX.out.trans G3a.out)) (HT.out.mono (GX.out.trans G3a.out)) (cre_done (GX.out.trans G3a.out) HCL.out HOK.out hkl rfl O3.out HINS.out)
     case rest =>
      obtain⟨rvF,bvF,hXF,hTF,hGF⟩:=hcut
      obtain⟨⟨AF,nF,kF2,rfl⟩,BF,mF,lF,rfl⟩:=slices2 hTF
      have HTF:=uZ hTF
      have GF:=uZ (G5.out.trans hGF)
      have HGF:=uZ (GA.out.trans GF.out)
      obtain⟨x0,x1,-,-⟩:=zt_facts4 hXF
      clear hXF hTF hGF xz1 fz0 fz1 e1 e2
      obtain⟨⟨r0,b0,a0,a1,a2,a3,a4,a5,a6,a7,a8,a9,a10,a11⟩,hR⟩:=HB.out _ GF.out
      obtain⟨q0,q1,z0,z1⟩:=res4 hR
      have HR:=uZ hR
      clear hR
      go_wp2_with fail
      obtain⟨p0,p1⟩:=res_cells (v0:=(.slice AF nF kF2)) (v1:=(.slice BF mF lF)) q0 q1
      refine bodyPost_ret (v:=.tuple #[.agg #[.slice AF nF kF2,.slice BF mF lF],.int .i64 0]) b_27 rfl ?_
      exact laidTr HR.out b_37 HGF.out HTF.out):p:=h
set_option maxHeartbeats 16000000 in
set_option maxRecDepth 100000 in
theorem refCreateYesN (t:Tr) (o:Opn) (rv bv:Value) (w:World) (hr:SlI w rv t.roots) (hv:SlBr w bv t.brs) (hf:FewBr t.brs) (hrl:t.roots.length≤1000000) (ho:brFind t.brs o.unit=none) (hl:levR t o.parent o.level=0) (hbz:o.before=0) (hu:markedF t.brs o.mark=none) (hlt:t.brs.length<256) {PUT:List Int} (hpu:putR o.unit o.before (childs t o.parent)++(if o.before=0 then[o.unit] else[])=PUT):Calls Tryz.prog 56 #[.agg #[rv,bv],o.agg] w (RetTr (putB t o PUT,0) w):=by
 have HTT:=uZ (fun W (hW:Grew w W)=>(⟨hr.mono hW,hv.mono hW⟩:TrOk W rv bv t))
 have kF:=fun W (hW:Grew w W)=>refFind19 t.brs o.unit rv bv W (hv.mono hW)
 rw[ho] at kF
 unfold TFindEnd at kF
 dsimp only [Option.getD_none,Option.isSome_none,br0] at kF
 have kL:=fun W (hW:Grew w W)=>lev21 t o.parent o.level rv bv W (hr.mono hW) (hv.mono hW)
 rw[hl] at kL
 have kC:=fun W (hW:Grew w W)=>refChildren t.roots t.brs o.parent rv bv W (hr.mono hW) (hv.mono hW) hf hrl
 rw[show childs ⟨t.roots,t.brs⟩ o.parent=childs t o.parent from rfl] at kC
 have kM:=fun W (hW:Grew w W)=>refMarked t.brs o.mark rv bv W (hv.mono hW)
 rw[hu] at kM
 unfold markV at kM
 dsimp only [Option.isSome_none] at kM
 have hkl:=childs_few hf hrl o.parent
 have kpu:=fun v W (h:SlI W v (childs t o.parent))=>ref21Put (childs t o.parent) o.unit o.before v W h hkl
 rw[hpu] at kpu
 have kst:=fun kv W (hW:Grew w W) (h:SlI W kv PUT)=>ref21Set t o.parent PUT rv bv kv W (hr.mono hW) (hv.mono hW) hf hrl h
 have hTl:(setG t o.parent PUT).brs.length<257:=by rw[setG_len];omega
 have hins:=fun k hk h1 h2=>insB_split (newBr o) (setG t o.parent PUT).brs k hk h1 h2
 obtain⟨i0,hi0,hz0,hz1,hz2⟩:=info_parts cinfoB
 unfold putB
 have hlz:¬ (256:Int)≤(t.brs.length:Int):=by omega
 clear hkl hpu hlt hu hl ho
 generalize setG t o.parent PUT=T at kst hTl hins ⊢
 generalize childs t o.parent=KS at *
 unfold newBr at hins ⊢
 have HBX:=uZ (ref_box w o)
 obtain⟨Ar,cr,rfl,-⟩:=SlI.open_ hr
 obtain⟨Ab,cb,rfl,-⟩:=SlBr.open_ hv
 clear hr hv hf hrl
 obtain⟨i,d,k,u,p,b,l,tt,m,x9,x10,x11⟩:=o
 unfold Opn.agg
 unfold Opn.cells at HBX
 dsimp only at HBX kF kL kC kM kpu kst hins hbz ⊢
 have KF:=uZ kF
 have KL:=uZ kL
 have KC:=uZ kC
 have KM:=uZ kM
 have Kpu:=uZ kpu
 have Kst:=uZ kst
 have Hins:=uZ hins
 have Hbz:=uZ hbz
 clear kF kL kC kM kpu kst hins hbz
 have GA:=uZ ((((uX w).alloc (.cells [.slice Ar t.roots.length cr,.slice Ab t.brs.length cb].toArray 35)).alloc (.cells [.int .i64 i,.int .i64 d,.int .i64 k,.int .i64 u,.int .i64 p,.int .i64 b,.int .i64 l,.string tt,.string m,.int .i64 x9,.int .i64 x10,.int .i64 x11].toArray 25)).alloc (.cells [.slice none 0 0,.slice none 0 0].toArray 35))
 have HB:=uZ (fun W g=>HBX.out (.slice Ar t.roots.length cr) (.slice Ab t.brs.length cb) W g)
 clear HBX
 go_enter Tryz.func56,Tryz.ntmps56
 go_wp2_with fail
 generalize ((w.alloc (.cells [.slice Ar t.roots.length cr,.slice Ab t.brs.length cb].toArray 35)).alloc (.cells [.int .i64 i,.int .i64 d,.int .i64 k,.int .i64 u,.int .i64 p,.int .i64 b,.int .i64 l,.string tt,.string m,.int .i64 x9,.int .i64 x10,.int .i64 x11].toArray 25)).alloc (.cells [.slice none 0 0,.slice none 0 0].toArray 35)=WA at GA HB ⊢
 refine(KF.out _ GA.out).mono ?_
 rintro e w1 ⟨rfl,g1⟩
 have G1:=uZ (g1.alloc (.cells #[.int .i64 0,.int .i64 0,.int .i64 0,.string ⟨#[]⟩,.string ⟨#[]⟩] 51))
 have HG1:=uZ (GA.out.trans G1.out)
 obtain⟨⟨r0,b0,a0,a1,a2,a3,a4,a5,a6,a7,a8,a9,a10,a11⟩,hR⟩:=HB.out _ G1.out
 obtain⟨q0,q1,z0,z1⟩:=res4 hR
 have HR:=uZ hR
 clear hR
 clear g1
 dsimp only
 go_wp2_with fail
 generalize w1.alloc (.cells #[.int .i64 0,.int .i64 0,.int .i64 0,.string ⟨#[]⟩,.string ⟨#[]⟩] 51)=wY at G1 HG1 r0 b0 a0 a1 a2 a3 a4 a5 a6 a7 a8 a9 a10 a11 q0 q1 z0 z1 HR ⊢
 refine(KL.out _ HG1.out).mono ?_
 rintro e w2 ⟨rfl,g2⟩
 have G2:=uZ (G1.out.trans g2)
 have HG2:=uZ (GA.out.trans G2.out)
 clear r0 b0 a0 a1 a2 a3 a4 a5 a6 a7 a8 a9 a10 a11 q0 q1 z0 z1 HR g2 KF KL G1 HG1
 obtain⟨⟨r0,b0,a0,a1,a2,a3,a4,a5,a6,a7,a8,a9,a10,a11⟩,hR⟩:=HB.out _ G2.out
 obtain⟨q0,q1,z0,z1⟩:=res4 hR
 have HR:=uZ hR
 clear hR
 dsimp only
 go_wp2_with fail
 refine(KC.out _ HG2.out).mono ?_
 rintro e w3 ⟨v3,rfl,hv3,g3,-⟩
 have G3:=uZ (G2.out.trans g3)
 have HG3:=uZ (GA.out.trans G3.out)
 have HV3:=uZ hv3
 clear r0 b0 a0 a1 a2 a3 a4 a5 a6 a7 a8 a9 a10 a11 q0 q1 z0 z1 HR g3 hv3 KC G2 HG2
 obtain⟨⟨r0,b0,a0,a1,a2,a3,a4,a5,a6,a7,a8,a9,a10,a11⟩,hR⟩:=HB.out _ G3.out
 obtain⟨q0,q1,z0,z1⟩:=res4 hR
 have HR:=uZ hR
 clear hR
 dsimp only
 have hbb:(b != 0)=false:=by simpa using Hbz.out
 exact c_1
set_option maxHeartbeats 16000000 in
set_option maxRecDepth 100000 in
theorem refCreateYesB (t:Tr) (o:Opn) (rv bv:Value) (w:World) (hr:SlI w rv t.roots) (hv:SlBr w bv t.brs) (hf:FewBr t.brs) (hrl:t.roots.length≤1000000) (ho:brFind t.brs o.unit=none) (hl:levR t o.parent o.level=0) (hbz:o.before≠0∧o.before∈childs t o.parent) (hu:markedF t.brs o.mark=none) (hlt:t.brs.length<256) {PUT:List Int} (hpu:putR o.unit o.before (childs t o.parent)++(if o.before=0 then[o.unit] else[])=PUT):Calls Tryz.prog 56 #[.agg #[rv,bv],o.agg] w (RetTr (putB t o PUT,0) w):=by
 have HTT:=uZ (fun W (hW:Grew w W)=>(⟨hr.mono hW,hv.mono hW⟩:TrOk W rv bv t))
 have kF:=fun W (hW:Grew w W)=>refFind19 t.brs o.unit rv bv W (hv.mono hW)
 rw[ho] at kF
 unfold TFindEnd at kF
 dsimp only [Option.getD_none,Option.isSome_none,br0] at kF
 have kL:=fun W (hW:Grew w W)=>lev21 t o.parent o.level rv bv W (hr.mono hW) (hv.mono hW)
 rw[hl] at kL
 have kC:=fun W (hW:Grew w W)=>refChildren t.roots t.brs o.parent rv bv W (hr.mono hW) (hv.mono hW) hf hrl
 rw[show childs ⟨t.roots,t.brs⟩ o.parent=childs t o.parent from rfl] at kC
 have kH:=fun v W h=>ref21Has (childs t o.parent) o.before v W h
 rw[decide_eq_true hbz.2] at kH
 replace hbz:=hbz.1
 have kM:=fun W (hW:Grew w W)=>refMarked t.brs o.mark rv bv W (hv.mono hW)
 rw[hu] at kM
 unfold markV at kM
 dsimp only [Option.isSome_none] at kM
 have hkl:=childs_few hf hrl o.parent
 have kpu:=fun v W (h:SlI W v (childs t o.parent))=>ref21Put (childs t o.parent) o.unit o.before v W h hkl
 rw[hpu] at kpu
 have kst:=fun kv W (hW:Grew w W) (h:SlI W kv PUT)=>ref21Set t o.parent PUT rv bv kv W (hr.mono hW) (hv.mono hW) hf hrl h
 have hTl:(setG t o.parent PUT).brs.length<257:=by rw[setG_len];omega
 have hins:=fun k hk h1 h2=>insB_split (newBr o) (setG t o.parent PUT).brs k hk h1 h2
 obtain⟨i0,hi0,hz0,hz1,hz2⟩:=info_parts cinfoB
 unfold putB
 have hlz:¬ (256:Int)≤(t.brs.length:Int):=by omega
 clear hkl hpu hlt hu hl ho
 generalize setG t o.parent PUT=T at kst hTl hins ⊢
 generalize childs t o.parent=KS at *
 unfold newBr at hins ⊢
 have HBX:=uZ (ref_box w o)
 obtain⟨Ar,cr,rfl,-⟩:=SlI.open_ hr
 obtain⟨Ab,cb,rfl,-⟩:=SlBr.open_ hv
 clear hr hv hf hrl
 obtain⟨i,d,k,u,p,b,l,tt,m,x9,x10,x11⟩:=o
 unfold Opn.agg
 unfold Opn.cells at HBX
 dsimp only at HBX kF kL kC kM kpu kst hins hbz kH ⊢
 have KF:=uZ kF
 have KL:=uZ kL
 have KC:=uZ kC
 have KM:=uZ kM
 have Kpu:=uZ kpu
 have Kst:=uZ kst
 have Hins:=uZ hins
 have Hbz:=uZ hbz
 have KH:=uZ kH
 clear kF kL kC kM kpu kst hins hbz kH
 have GA:=uZ ((((uX w).alloc (.cells [.slice Ar t.roots.length cr,.slice Ab t.brs.length cb].toArray 35)).alloc (.cells [.int .i64 i,.int .i64 d,.int .i64 k,.int .i64 u,.int .i64 p,.int .i64 b,.int .i64 l,.string tt,.string m,.int .i64 x9,.int .i64 x10,.int .i64 x11].toArray 25)).alloc (.cells [.slice none 0 0,.slice none 0 0].toArray 35))
 have HB:=uZ (fun W g=>HBX.out (.slice Ar t.roots.length cr) (.slice Ab t.brs.length cb) W g)
 clear HBX
 go_enter Tryz.func56,Tryz.ntmps56
 go_wp2_with fail
 generalize ((w.alloc (.cells [.slice Ar t.roots.length cr,.slice Ab t.brs.length cb].toArray 35)).alloc (.cells [.int .i64 i,.int .i64 d,.int .i64 k,.int .i64 u,.int .i64 p,.int .i64 b,.int .i64 l,.string tt,.string m,.int .i64 x9,.int .i64 x10,.int .i64 x11].toArray 25)).alloc (.cells [.slice none 0 0,.slice none 0 0].toArray 35)=WA at GA HB ⊢
 refine(KF.out _ GA.out).mono ?_
 rintro e w1 ⟨rfl,g1⟩
 have G1:=uZ (g1.alloc (.cells #[.int .i64 0,.int .i64 0,.int .i64 0,.string ⟨#[]⟩,.string ⟨#[]⟩] 51))
 have HG1:=uZ (GA.out.trans G1.out)
 obtain⟨⟨r0,b0,a0,a1,a2,a3,a4,a5,a6,a7,a8,a9,a10,a11⟩,hR⟩:=HB.out _ G1.out
 obtain⟨q0,q1,z0,z1⟩:=res4 hR
 have HR:=uZ hR
 clear hR
 clear g1
 dsimp only
 go_wp2_with fail
 generalize w1.alloc (.cells #[.int .i64 0,.int .i64 0,.int .i64 0,.string ⟨#[]⟩,.string ⟨#[]⟩] 51)=wY at G1 HG1 r0 b0 a0 a1 a2 a3 a4 a5 a6 a7 a8 a9 a10 a11 q0 q1 z0 z1 HR ⊢
 refine(KL.out _ HG1.out).mono ?_
 rintro e w2 ⟨rfl,g2⟩
 have G2:=uZ (G1.out.trans g2)
 have HG2:=uZ (GA.out.trans G2.out)
 clear r0 b0 a0 a1 a2 a3 a4 a5 a6 a7 a8 a9 a10 a11 q0 q1 z0 z1 HR g2 KF KL G1 HG1
 obtain⟨⟨r0,b0,a0,a1,a2,a3,a4,a5,a6,a7,a8,a9,a10,a11⟩,hR⟩:=HB.out _ G2.out
 obtain⟨q0,q1,z0,z1⟩:=res4 hR
 have HR:=uZ hR
 clear hR
 dsimp only
 go_wp2_with fail
 refine(KC.out _ HG2.out).mono ?_
 rintro e w3 ⟨v3,rfl,hv3,g3,-⟩
 have G3:=uZ (G2.out.trans g3)
 have HG3:=uZ (GA.out.trans G3.out)
 have HV3:=uZ hv3
 clear r0 b0 a0 a1 a2 a3 a4 a5 a6 a7 a8 a9 a10 a11 q0 q1 z0 z1 HR g3 hv3 KC G2 HG2
 obtain⟨⟨r0,b0,a0,a1,a2,a3,a4,a5,a6,a7,a8,a9,a10,a11⟩,hR⟩:=HB.out _ G3.out
 obtain⟨q0,q1,z0,z1⟩:=res4 hR
 have HR:=uZ hR
 clear hR
 dsimp only
 have hbb:(b != 0)=true:=by simpa using Hbz.out
 go_wp2_with fail
 refine(KH.out _ _ HV3.out).mono ?_
 rintro e w4 ⟨rfl,rfl⟩
 dsimp only
 exact c_1
end Go.Proofs.YtafncfomiolmgaaGreatDoor
namespace Go.Proofs.YtafncfomiolmgaaGreatDoor
open Go.RowKit
theorem refCreate (t:Tr) (o:Opn) (rv bv:Value) (w:World) (hr:SlI w rv t.roots) (hv:SlBr w bv t.brs) (hf:FewBr t.brs) (hrl:t.roots.length≤1000000) (hT:RightT t) :
  Calls Tryz.prog 56 #[.agg #[rv,bv],o.agg] w (RetTr (creR t o) w):=by
 cases ho:brFind t.brs o.unit with
 | some fb =>
  have:=refCreateTwice t o rv bv w hr hv ho
  have hF:faultC t o=6:=by
   unfold faultC
   rw[ho,if_pos (show(some fb).isSome=true from rfl)]
  unfold creR
  rw[hF,if_neg b_36]
  exact this
 | none =>
  exact create_cases hT ho (fun R=>Calls Tryz.prog 56 #[.agg #[rv,bv],o.agg] w (RetTr R w))
   (fun n h1 h2=>refCreateLev t o rv bv w hr hv ho h1 h2)
   (fun h1 h2 h3=>refCreateBef t o rv bv w hr hv hf hrl ho h1 h2 h3)
   (fun h1 h2 x h3=>by
    rcases h2 with h2|h2
    ·exact refCreateUsedN t o rv bv w hr hv hf hrl ho h1 h2 h3
    ·exact refCreateUsedB t o rv bv w hr hv hf hrl ho h1 h2 h3)
   (fun h1 h2 h3 h4=>by
    rcases h2 with h2|h2
    ·exact refCreateManyN t o rv bv w hr hv hf hrl ho h1 h2 h3 h4
    ·exact refCreateManyB t o rv bv w hr hv hf hrl ho h1 h2 h3 h4)
   (fun h1 h2 h3 h4 PUT h5 _=>by
    rcases h2 with h2|h2
    ·exact refCreateYesN t o rv bv w hr hv hf hrl ho h1 h2 h3 h4 h5
    ·exact refCreateYesB t o rv bv w hr hv hf hrl ho h1 h2 h3 h4 h5)
end Go.Proofs.YtafncfomiolmgaaGreatDoor
namespace Go.Proofs.YtafncfomiolmgaaGreatDoor
open Go.RowKit
theorem ref18In (n lo hi:Int) (w:World):Calls Tryz.prog 84 #[.int .i64 n,.int .i64 lo,.int .i64 hi] w fun e w'=>e=.returned (.bool (within n lo hi))∧w=w':=by
 unfold within
 cases a1:decide (lo≤n)<;>cases a2:decide (n≤hi)
 all_goals
  go_enter Tryz.func84,Tryz.ntmps84
  go_wp2
  go_ret
  exact⟨rfl,rfl⟩
set_option maxRecDepth 100000 in
theorem ref18Valid (f a n:Int) (w:World):Calls Tryz.prog 46 #[.agg #[.int .i64 f,.int .i64 a,.int .i64 n]] w fun e w'=>e=.returned (.bool (originF f a n))∧Grew w w':=by
 have k1:=fun W=>ref18In f 0 1073741824 W
 have k2:=fun W=>ref18In a 1 1073741824 W
 have k3:=fun W=>ref18In n 1 9999 W
 unfold originF
 generalize within f 0 1073741824=b1 at k1
 generalize within a 1 1073741824=b2 at k2
 generalize within n 1 9999=b3 at k3
 have K1:=uZ k1
 have K2:=uZ k2
 have K3:=uZ k3
 clear k1 k2 k3
 cases b1<;>cases b2<;>cases b3<;>cases a4:(a == 0)<;>cases a5:(n == 0)
 all_goals
  go_enter Tryz.func46,Tryz.ntmps46
  go_wp2_with (first|(go_at_call 84;(first|(with_reducible refine(K1.out _).mono ?_;rintro e w1 ⟨rfl,rfl⟩)|(with_reducible refine(K2.out _).mono ?_;rintro e w1 ⟨rfl,rfl⟩)|(with_reducible refine(K3.out _).mono ?_;rintro e w1 ⟨rfl,rfl⟩))))
  go_ret
  exact⟨rfl,(uX w).alloc _⟩
end Go.Proofs.YtafncfomiolmgaaGreatDoor