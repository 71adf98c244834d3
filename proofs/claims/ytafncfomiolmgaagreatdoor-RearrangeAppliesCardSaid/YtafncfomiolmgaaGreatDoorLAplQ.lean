/- The law RearrangeApplies, walked, its awake given. The condition: the library's own variables hold what they must. -/
import Derived.Test.YtafncfomiolmgaaGreatDoorQ32
import Derived.Test.YtafncfomiolmgaaGreatDoorQ40
import Derived.Test.YtafncfomiolmgaaGreatDoorQ33
namespace Go.Proofs.YtafncfomiolmgaaGreatDoor
open Go.RowKit
set_option maxHeartbeats 16000000 in
set_option maxRecDepth 100000 in
theorem applies_of (t:Tr) (o:Opn) (rv bv:Value) (w:World) (hE:Env w) (hr:SlI w rv t.roots) (hb:SlBr w bv t.brs) (hkw:(Lit.int .i64 o.kind).wf=true) (hA:∀ W,Grew w W→Calls Tryz.prog 11 #[] W fun e w'=>e=.returned (.bool true)∧Grew W w'):Calls Tryz.prog 4 #[.agg #[rv,bv],o.agg] w fun e w'=>e=.returned (.bool true)∧Grew w w':=by
 have KA:=uZ hA
 have kW:=fun W (hW:Grew w W)=>fewLaw t o rv bv W (hr.mono hW) (hb.mono hW)
 have kC:=fun W (hW:Grew w W) (hf:FewTM t.roots t.brs)=>cpTr t rv bv W (hr.mono hW) (hb.mono hW) hf.br hf.rs
 have kC2:=fun(x:Tr) W rx bx (ht:TrOk W rx bx x) (hx:RightT x)=>cpTr x rx bx W ht.1 ht.2 (right_few hx).1 (right_few hx).2
 have kP:=fun W rx bx (hW:Grew w W) (ht:TrOk W rx bx t) (hf:FewTM t.roots t.brs)=>rApply t o rx bx W (hE.mono hW) ht.1 ht.2 hf.br hf.rs hkw
 have kR:=fun W (hW:Grew w W) (hf:FewTM t.roots t.brs) (ho:FewO o)=>refApply t o rv bv W (hr.mono hW) (hb.mono hW) hf.br hf.rs (fun b hb=>by obtain⟨i,hi,rfl⟩:=List.mem_iff_getElem.1 hb;exact(hf.2.2 i hi).2) ho.2
 have KS:=uZ (fun(x:Tr) ra ba rb bb W=>same19 x ra ba rb bb W)
 generalize applyR t o=R at kP kR
 obtain⟨U,n⟩:=R
 clear hE
 obtain⟨Ar,cr,rfl,-⟩:=hr.open_
 obtain⟨Ab,cb,rfl,-⟩:=hb.open_
 have HB:=uZ (fun(r b:Value) W (g:Grew ((w.alloc (.cells [r,b].toArray 35)).alloc (.cells o.cells.toArray 25)) W)=>law_cells o g)
 generalize hFO:FewO o=FO at kW
 obtain⟨i,d,k,u,p,b,l,tt,m,x9,x10,x11⟩:=o
 unfold Opn.agg at kW kP kR ⊢
 unfold Opn.cells at HB
 dsimp only at kW kP kR HB ⊢
 have KW:=uZ kW
 have KP:=uZ kP
 have KR:=uZ kR
 have KC:=uZ kC
 have KC2:=uZ kC2
 clear kW kP kR kC kC2 hr hb hA
 go_enter Tryz.func4,Tryz.ntmps4
 go_wp2_with fail
 refine(KA.out _ (((uX w).alloc _).alloc _)).mono ?_
 rintro e wa ⟨rfl,ga⟩
 have hh:=HB.out _ _ wa ga
 have HG1:=uZ ((((uX w).alloc _).alloc _).trans ga)
 have HS1:=uZ hh
 clear ga HB
 obtain⟨r0,b0,a0,a1,a2,a3,a4,a5,a6,a7,a8,a9,a10,a11⟩:=hh
 dsimp only
 go_wp2_with fail
 refine(KW.out _ HG1.out).mono ?_
 rintro e wb ⟨q,rfl,hq,gb⟩
 have HS0:=uZ (law_grow HS1.out gb)
 have HG2:=uZ (HG1.out.trans gb)
 have HQ:=uZ hq
 clear hq gb HG1 HS1 r0 b0 a0 a1 a2 a3 a4 a5 a6 a7 a8 a9 a10 a11
 dsimp only
 cases q
 ·clear HQ
  go_wp2_with fail
  refine(KA.out _ HG2.out).mono ?_
  rintro e wz ⟨rfl,g3⟩
  have HG3:=uZ (HG2.out.trans g3)
  clear g3
  dsimp only
  go_wp2
  go_ret
  exact⟨rfl,HG3.out⟩
 have HFO:=uZ (show FewO ⟨i,d,k,u,p,b,l,tt,m,x9,x10,x11⟩ from hFO▸(HQ.out rfl).2)
 have HF:=uZ (HQ.out rfl).1
 clear HQ
 go_wp2_with fail
 go_cut [5,6] from 19 to 24 (fun s5 s6 wx=>ApCut wb (U,(n:Int)) s5 s6 wx)
 case first =>
  as_aux_lemma =>
  go_region_held3 (fun W=>W.cell? ⟨w.heap.size,0,none⟩=some (.slice Ar t.roots.length cr)∧W.cell? ⟨w.heap.size,1,none⟩=some (.slice Ab t.brs.length cb)∧W.cell? ⟨w.heap.size+1,0,none⟩=some (.int .i64 i)∧W.cell? ⟨w.heap.size+1,1,none⟩=some (.int .i64 d)∧W.cell? ⟨w.heap.size+1,2,none⟩=some (.int .i64 k)∧W.cell? ⟨w.heap.size+1,3,none⟩=some (.int .i64 u)∧W.cell? ⟨w.heap.size+1,4,none⟩=some (.int .i64 p)∧W.cell? ⟨w.heap.size+1,5,none⟩=some (.int .i64 b)∧W.cell? ⟨w.heap.size+1,6,none⟩=some (.int .i64 l)∧W.cell? ⟨w.heap.size+1,7,none⟩=some (.string tt)∧W.cell? ⟨w.heap.size+1,8,none⟩=some (.string m)∧W.cell? ⟨w.heap.size+1,9,none⟩=some (.int .i64 x9)∧W.cell? ⟨w.heap.size+1,10,none⟩=some (.int .i64 x10)∧W.cell? ⟨w.heap.size+1,11,none⟩=some (.int .i64 x11)) (exact law_grow HS0.out (by repeat (first|exact uX _|exact GB2.out|exact GB1.out|refine uJ ?_|refine uU ?_ _|refine yZ ?_ (by first|exact Nat.le_refl _|exact GB1.out.size|exact GB2.out.size|simp) _))) (first|(go_at_call 19;refine(KC.out _ (HG2.out.trans b_22) HF.out).mono ?_;rintro e w1 ⟨rv1,bv1,rfl,ht1,g1⟩;have GB1:=uZ (show Grew wb w1 from uY b_22 g1);obtain⟨A1,k1,rfl,-⟩:=SlI.open_ ht1.1;obtain⟨A2,k2,rfl,-⟩:=SlBr.open_ ht1.2;have HT1:=uZ ht1;(first|have Na1:=uZ (show Grew (wb.alloc (.cells [.slice none 0 0,.slice none 0 0].toArray 35)) w1 from uY (uX _).drew g1)|have Na1:=uZ (show Grew (wb.alloc (.cells [.slice none 0 0,.slice none 0 0].toArray 35)) w1 from uY (uX _) g1)|skip);clear ht1 g1)|(go_at_call 18;refine(KP.out _ _ _ (HG2.out.trans (by repeat (first|exact uX _|exact GB1.out|refine uJ ?_|refine uU ?_ _))) (HT1.out.mono b_22) HF.out).mono ?_;rintro e w2 ⟨rv2,bv2,rfl,ht2,g2⟩;have GX:=uZ (show Grew w1 w2 from uY b_22 g2);have GB2:=uZ (GB1.out.trans GX.out);obtain⟨B1,l1,rfl,-⟩:=SlI.open_ ht2.1;obtain⟨B2,l2,rfl,-⟩:=SlBr.open_ ht2.2;have HT2:=uZ ht2;(try have PA:=uK (Na1.out.trans GX.out) (heap_allocE (a:=wb) (p:=(.cells [.slice none 0 0,.slice none 0 0].toArray 35)) rfl));(first|have PB:=uK (show Grew (w1.alloc (.cells [.slice none 0 0,.slice none 0 0].toArray 35)) w2 from uY (uX _).drew g2) (heap_allocE (a:=w1) (p:=(.cells [.slice none 0 0,.slice none 0 0].toArray 35)) rfl)|have PB:=uK (show Grew (w1.alloc (.cells [.slice none 0 0,.slice none 0 0].toArray 35)) w2 from uY (uX _) g2) (heap_allocE (a:=w1) (p:=(.cells [.slice none 0 0,.slice none 0 0].toArray 35)) rfl)|skip);(try have pa0:=(zt_facts PA).1);(try have pa1:=(zt_facts PA).2.1);(try have pa2:=(zt_facts PA).2.2.1);(try have pa3:=(zt_facts PA).2.2.2);(try have pb0:=(zt_facts PB).1);(try have pb1:=(zt_facts PB).2.1);(try have pb2:=(zt_facts PB).2.2.1);(try have pb3:=(zt_facts PB).2.2.2);clear ht2 g2))
  all_goals go_wp2_with fail
  all_goals go_meet
  all_goals first|exact ap_meet2 GB2.out HT2.out|exact ap_meet PA (Nat.le_refl _) GB2.out HT2.out|exact ap_meet PB GB1.out.size GB2.out HT2.out
 case rest =>
  as_aux_lemma =>
   obtain⟨X,rvU,bvU,rfl,rfl,x0,x1,hTU,hgU⟩:=hcut
   have HSU:=uZ (law_grow HS0.out hgU)
   have HGU:=uZ (HG2.out.trans hgU)
   obtain⟨r0,b0,a0,a1,a2,a3,a4,a5,a6,a7,a8,a9,a10,a11⟩:=HSU.out
   have HX:=uZ (show wc.cell? ⟨X,0,none⟩=some rvU∧wc.cell? ⟨X,1,none⟩=some bvU∧TrOk wc rvU bvU U from⟨x0,x1,hTU⟩)
   clear x0 x1 hTU hgU
   go_wp2_with fail
   refine(KR.out _ HGU.out HF.out HFO.out).mono ?_
   rintro e w3 ⟨rv3,bv3,rfl,ht3,g3⟩
   have HG3:=uZ (HGU.out.trans g3)
   have HT3:=uZ ht3
   obtain⟨A1,k1,rfl,-⟩:=SlI.open_ ht3.1
   obtain⟨A2,k2,rfl,-⟩:=SlBr.open_ ht3.2
   have gz:=g3.alloc (.cells #[.slice A1 U.roots.length k1,.slice A2 U.brs.length k2] 35)
   obtain⟨x0,x1,hTU⟩:=HX.out
   replace x0:=uQ gz x0
   replace x1:=uQ gz x1
   have HTU:=uZ (hTU.mono gz)
   obtain⟨⟨B1,n1,l1,rfl⟩,B2,n2,l2,rfl⟩:=tr_slices hTU
   have y0:=yQ (uX (w3.alloc (.cells #[.slice A1 U.roots.length k1,.slice A2 U.brs.length k2] 35))) 0 _ rfl
   have y1:=yQ (uX (w3.alloc (.cells #[.slice A1 U.roots.length k1,.slice A2 U.brs.length k2] 35))) 1 _ rfl
   clear ht3 g3 gz hTU HX r0 b0 a0 a1 a2 a3 a4 a5 a6 a7 a8 a9 a10 a11
   dsimp only
   go_wp2_with fail
   refine(KS.out U _ _ _ _ _ HTU.out (HT3.out.mono ((uX _).alloc _))).mono ?_
   rintro e w4 ⟨rfl,g4⟩
   have HG4:=uZ ((HG3.out.alloc _).trans g4)
   clear g4
   dsimp only
   go_wp2
   go_ret
   exact⟨rfl,HG4.out⟩
end Go.Proofs.YtafncfomiolmgaaGreatDoor