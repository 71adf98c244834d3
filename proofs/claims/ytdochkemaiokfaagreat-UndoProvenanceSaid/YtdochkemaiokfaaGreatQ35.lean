/- Lemmas on what the functions of the program and of the library compute: UnH. The conditions stand at each. -/
import Derived.Deep.CutRange
import Derived.Deep.RegionHeld3
import Derived.BigQuiet
import Derived.Test.YtdochkemaiokfaaGreatQ32
import Derived.Test.YtdochkemaiokfaaGreatQ33
import Derived.Test.YtdochkemaiokfaaGreatQ29
import Derived.Test.YtdochkemaiokfaaGreatQ27
import Derived.Test.YtdochkemaiokfaaGreatQ34
/- undo: the keeper's admit, walked, at an undo. The conditions: the log is admitted; the library's own variables hold what they must; the numbers are numbers of an int. -/
namespace Go.Proofs.YtdochkemaiokfaaGreat
open Go.RowKit Go.Maps
set_option maxHeartbeats 16000000 in
set_option maxRecDepth 100000 in
theorem uAdmitUndo (l:List Opn) (o:Opn) (w0 w:World) (KB MB:Nat) (hE:Env w) (hK:KeepAt w0 KB MB l (replayF l).1 w) (hA:AdmL l) (hwf:∀ i (h:i<l.length),WfO l[i]) (hwo:WfO o) (hlen:l.length<1000000) (h6:o.kind=6):Calls Tryz.prog 44 #[.pointer (some ⟨KB,0,none⟩),o.agg] w (RetAdm w0 KB MB l o (admitT l (replayF l).1 o)):=by
 have hsn:=fun h:(admitT l (replayF l).1 o).2.2=0=>AdmL.snoc hA h
 have hft:=FewTr_ok hA
 have kF:=fun W (hW:Grew w W)=>uFault l (replayF l).1 o w0 W KB MB (hE.mono hW) (hK.grew hW) hA hwf hwo (by omega)
 have kR:=fun lv W (hW:Grew w W) (h2:SlO W lv (l++[o]))=>uReplay (l++[o]) (fun i hi=>by
   rw[List.getElem_append]
   split
   ·exact hwf _ _
   ·simpa using hwo) lv W (hE.mono hW) h2 (by rw[List.length_append,List.length_singleton];omega)
 have hes:evidF (l++[o])=evidF l:=by rw[evid_snoc,if_neg (by rw[h6];decide)]
 have hm0:marksB o=false:=by unfold marksB;rw[h6];rfl
 unfold RetRep at kR
 have kM:=fun W=>uMarks o W
 have KCL:=Lib.hid (fun v W (h:SlO W v l)=>cloneO l v W h (by omega))
 have hbm:=kb_ne_mb hK
 obtain⟨E,k,A,n,c,B,m,d,C,q,hO,hV⟩:=hK.open_
 obtain⟨i0,hi,hz0,hz1,hz2⟩:=info_parts cinfoO
 have hsz12:(0:Nat)<12:=by omega
 have HNC:=Lib.hid hlen
 have hAT:=admit_undo (l:=l) (t:=(replayF l).1) h6
 have hgen:∀(x:Tr × Int × Int) (W:World),admitT l (replayF l).1 o=x→Grew w0 W→(x.2.2=0→KeepAt w0 KB MB (l++[o]) x.1 W)→RetAdm w0 KB MB l o (admitT l (replayF l).1 o) (.returned (.tuple #[.int .i64 x.2.1,.int .i64 x.2.2])) W:=fun x W h hg h2=>⟨by rw[h],hg,by rw[h];exact h2⟩
 have hlt:MB<w.heap.size:=by
  obtain⟨n2,D,h2,-⟩:=hV.o
  exact h2.lt
 have hkl:KB<w.heap.size:=(Array.getElem?_eq_some_iff.1 hO.cell).1
 generalize admitT l (replayF l).1 o=RES at hAT hgen hsn ⊢
 generalize faultK l o=FK at kF hAT
 generalize replayF (l++[o])=RR at kR hAT
 obtain⟨U,ri,n0⟩:=RR
 generalize (replayF l).1=T0 at hV hAT
 have hmk:=fun h:marksB o=false=>@ownM_skip l
 clear hmk
 obtain⟨no,D,hom,hnl,hon⟩:=hV.o
 have hvl:=hV.l
 have hvt:=hV.t
 have hvc:=hV.c
 have HPUT:=Lib.hid (fun h:marksB o=true=>ownM_put hon hom.isMap h)
 have HSKIP:=Lib.hid (fun h:marksB o=false=>ownM_skip hon h)
 have HKEY:=Lib.hid (keyT o.mark hwo.mark)
 have HWU:=Lib.hid hwo.unit
 generalize marksB o=M0 at kM HPUT HSKIP hm0
 obtain⟨o0,o1,o2,o3,o4,o5,o6,o7,o8,o9,o10,o11⟩:=o
 unfold Opn.agg at kF kM ⊢
 dsimp only at kF kM hAT HPUT HSKIP HKEY HWU h6 kR ⊢
 have HADM:=Lib.hid hgen
 have HSN:=Lib.hid hsn
 have HATT:=Lib.hid hAT
 have KF:=Lib.hid kF
 have KM:=Lib.hid kM
 have HO:=Lib.hid hO
 have HES:=Lib.hid hes
 have HVL:=Lib.hid hvl
 have HVT:=Lib.hid hvt
 have HVC:=Lib.hid hvc
 have HOM:=Lib.hid hom
 have HON:=Lib.hid hon
 have HNL:=Lib.hid hnl
 have HBM:=Lib.hid hbm
 have HLT:=Lib.hid hlt
 have HKL:=Lib.hid hkl
 have KR:=Lib.hid kR
 have HBX:=Lib.hid (fun(W:World) (hW:Grew (w.alloc (.cells #[.int .i64 o0,.int .i64 o1,.int .i64 o2,.int .i64 o3,.int .i64 o4,.int .i64 o5,.int .i64 o6,.string o7,.string o8,.int .i64 o9,.int .i64 o10,.int .i64 o11] 26)) W)=>heapKeep hW (heapNew w (.cells #[.int .i64 o0,.int .i64 o1,.int .i64 o2,.int .i64 o3,.int .i64 o4,.int .i64 o5,.int .i64 o6,.string o7,.string o8,.int .i64 o9,.int .i64 o10,.int .i64 o11] 26)))
 have HG0:=Lib.hid ((Grew.refl w).alloc (.cells #[.int .i64 o0,.int .i64 o1,.int .i64 o2,.int .i64 o3,.int .i64 o4,.int .i64 o5,.int .i64 o6,.string o7,.string o8,.int .i64 o9,.int .i64 o10,.int .i64 o11] 26))
 have hk6:(o2 == 6)=true:=by simpa using h6
 have H6:=Lib.hid h6
 clear hgen hsn hAT kF kM hO hes hvl hvt hvc hom hon hnl hbm hlt hkl hlen hE hK hA hwf hwo hft hV h6 kR
 subst hm0
 go_enter Tryz.func44,Tryz.ntmps44
 go_wp2_with fail
 refine(KF.out _ HG0.out).mono ?_
 rintro e w1 ⟨rfl,g1⟩
 have HG1:=Lib.hid (HG0.out.trans g1)
 have HO1:=Lib.hid (HO.out.grew HG1.out)
 have HX1:=Lib.hid (HBX.out _ g1)
 clear g1
 dsimp only
 by_cases hf:FK=0
 case neg =>
  have hb:(FK != 0)=true:=by simpa using hf
  have HF:=Lib.hid hf
  have HQ:=Lib.hid (HATT.out.trans (if_pos hf))
  clear hf
  go_wp2
  go_ret2
  exact HADM.out _ _ HQ.out HO1.out.g (fun h=>absurd h HF.out)
 case pos =>
  subst hf
  have hb:((0:Int) != 0)=false:=rfl
  have HQ0:=Lib.hid (HATT.out.trans (if_neg (by decide)))
  obtain⟨xk0,xk1,xk2,xk3,xk4,xz0,xz1,xz2,xz3⟩:=HO1.out.facts
  have xb0:w1.cell? ⟨w.heap.size,0,none⟩=some (.int .i64 o0):=cellOf HX1.out rfl
  have xb1:w1.cell? ⟨w.heap.size,1,none⟩=some (.int .i64 o1):=cellOf HX1.out rfl
  have xb2:w1.cell? ⟨w.heap.size,2,none⟩=some (.int .i64 o2):=cellOf HX1.out rfl
  have xb3:w1.cell? ⟨w.heap.size,3,none⟩=some (.int .i64 o3):=cellOf HX1.out rfl
  have xb4:w1.cell? ⟨w.heap.size,4,none⟩=some (.int .i64 o4):=cellOf HX1.out rfl
  have xb5:w1.cell? ⟨w.heap.size,5,none⟩=some (.int .i64 o5):=cellOf HX1.out rfl
  have xb6:w1.cell? ⟨w.heap.size,6,none⟩=some (.int .i64 o6):=cellOf HX1.out rfl
  have xb7:w1.cell? ⟨w.heap.size,7,none⟩=some (.string o7):=cellOf HX1.out rfl
  have xb8:w1.cell? ⟨w.heap.size,8,none⟩=some (.string o8):=cellOf HX1.out rfl
  have xb9:w1.cell? ⟨w.heap.size,9,none⟩=some (.int .i64 o9):=cellOf HX1.out rfl
  have xb10:w1.cell? ⟨w.heap.size,10,none⟩=some (.int .i64 o10):=cellOf HX1.out rfl
  have xb11:w1.cell? ⟨w.heap.size,11,none⟩=some (.int .i64 o11):=cellOf HX1.out rfl
  have HSS:=Lib.hid (fun W (g:Grew w1 W)=>(⟨keep_cell g xk0,keep_cell g xb0,keep_cell g xb1,keep_cell g xb2,keep_cell g xb3,keep_cell g xb4,keep_cell g xb5,keep_cell g xb6,keep_cell g xb7,keep_cell g xb8,keep_cell g xb9,keep_cell g xb10,keep_cell g xb11,g⟩:W.cell? ⟨KB,0,none⟩=some (.slice E l.length k)∧W.cell? ⟨w.heap.size,0,none⟩=some (.int .i64 o0)∧W.cell? ⟨w.heap.size,1,none⟩=some (.int .i64 o1)∧W.cell? ⟨w.heap.size,2,none⟩=some (.int .i64 o2)∧W.cell? ⟨w.heap.size,3,none⟩=some (.int .i64 o3)∧W.cell? ⟨w.heap.size,4,none⟩=some (.int .i64 o4)∧W.cell? ⟨w.heap.size,5,none⟩=some (.int .i64 o5)∧W.cell? ⟨w.heap.size,6,none⟩=some (.int .i64 o6)∧W.cell? ⟨w.heap.size,7,none⟩=some (.string o7)∧W.cell? ⟨w.heap.size,8,none⟩=some (.string o8)∧W.cell? ⟨w.heap.size,9,none⟩=some (.int .i64 o9)∧W.cell? ⟨w.heap.size,10,none⟩=some (.int .i64 o10)∧W.cell? ⟨w.heap.size,11,none⟩=some (.int .i64 o11)∧Grew w1 W))
  go_wp2_with fail
  go_cut [7] from 20 to 27 (fun s7 wx=>LogCut w1 l ⟨o0,o1,o2,o3,o4,o5,o6,o7,o8,o9,o10,o11⟩ s7 wx)
  case first =>
   go_region_held3 (fun W=>W.cell? ⟨KB,0,none⟩=some (.slice E l.length k)∧W.cell? ⟨w.heap.size,0,none⟩=some (.int .i64 o0)∧W.cell? ⟨w.heap.size,1,none⟩=some (.int .i64 o1)∧W.cell? ⟨w.heap.size,2,none⟩=some (.int .i64 o2)∧W.cell? ⟨w.heap.size,3,none⟩=some (.int .i64 o3)∧W.cell? ⟨w.heap.size,4,none⟩=some (.int .i64 o4)∧W.cell? ⟨w.heap.size,5,none⟩=some (.int .i64 o5)∧W.cell? ⟨w.heap.size,6,none⟩=some (.int .i64 o6)∧W.cell? ⟨w.heap.size,7,none⟩=some (.string o7)∧W.cell? ⟨w.heap.size,8,none⟩=some (.string o8)∧W.cell? ⟨w.heap.size,9,none⟩=some (.int .i64 o9)∧W.cell? ⟨w.heap.size,10,none⟩=some (.int .i64 o10)∧W.cell? ⟨w.heap.size,11,none⟩=some (.int .i64 o11)∧Grew w1 W) (refine HSS.out _ (by repeat (with_reducible first|exact Grew.refl _|exact GZ.out|exact GQ.out|refine Grew.drew ?_|refine Grew.alloc ?_ _))) (first|(go_at_call 15;with_reducible refine(KCL.out _ _ (HVL.out.mono (HG1.out.trans (by repeat (with_reducible first|exact Grew.refl _|refine Grew.drew ?_|refine Grew.alloc ?_ _))))).mono ?_;rintro e wq ⟨vq,rfl,hoq,gq⟩;obtain⟨Aq,cq,rfl⟩:=own_slice hoq;have GQ:=Lib.hid (show Grew w1 wq from Grew.trans (by repeat (with_reducible first|exact Grew.refl _|refine Grew.drew ?_|refine Grew.alloc ?_ _)) gq);have HOQ:=Lib.hid (ownMono hoq (show w1.heap.size≤_ from Grew.size (by repeat (with_reducible first|exact Grew.refl _|refine Grew.drew ?_|refine Grew.alloc ?_ _))));(try (have hdr:Grew (w1.alloc (.cells [.int .i64 o0,.int .i64 o1,.int .i64 o2,.int .i64 o3,.int .i64 o4,.int .i64 o5,.int .i64 o6,.string o7,.string o8,.int .i64 o9,.int .i64 o10,.int .i64 o11].toArray 26)).drew wq:=(by with_reducible exact gq);have LB:=Lib.hid (heapKeep (Grew.trans (Grew.refl _).drew hdr) (heapNew w1 (.cells [.int .i64 o0,.int .i64 o1,.int .i64 o2,.int .i64 o3,.int .i64 o4,.int .i64 o5,.int .i64 o6,.string o7,.string o8,.int .i64 o9,.int .i64 o10,.int .i64 o11].toArray 26)))));(try (have hdr:Grew (w1.alloc (.cells [.int .i64 o0,.int .i64 o1,.int .i64 o2,.int .i64 o3,.int .i64 o4,.int .i64 o5,.int .i64 o6,.string o7,.string o8,.int .i64 o9,.int .i64 o10,.int .i64 o11].toArray 26)) wq:=(by with_reducible exact gq);have LB:=Lib.hid (heapKeep hdr (heapNew w1 (.cells [.int .i64 o0,.int .i64 o1,.int .i64 o2,.int .i64 o3,.int .i64 o4,.int .i64 o5,.int .i64 o6,.string o7,.string o8,.int .i64 o9,.int .i64 o10,.int .i64 o11].toArray 26)))));clear hoq gq)|(refine stepZ (o:=⟨some 27,_,_,_,_,_⟩) (by rfl) (.tmp 24) (.tmp 26) 22 (by rfl) w1 26 i0 (.agg #[.int .i64 0,.int .i64 0,.int .i64 0,.int .i64 0,.int .i64 0,.int .i64 0,.int .i64 0,.string ⟨#[]⟩,.string ⟨#[]⟩,.int .i64 0,.int .i64 0,.int .i64 0]) 12 112 Tryz.underlying22 hi hz0 hz1 hz2 rfl hsz12 _ l.length (l.flatMap Opn.cells) (by rfl) _ (own_later HOQ.out (by repeat (with_reducible first|exact Grew.refl _|refine Grew.drew ?_|refine Grew.alloc ?_ _))) (GQ.out.trans (by repeat (with_reducible first|exact Grew.refl _|refine Grew.drew ?_|refine Grew.alloc ?_ _))) _ 1 [.int .i64 o0,.int .i64 o1,.int .i64 o2,.int .i64 o3,.int .i64 o4,.int .i64 o5,.int .i64 o6,.string o7,.string o8,.int .i64 o9,.int .i64 o10,.int .i64 o11] (by rfl) (rd_lit [.int .i64 o0,.int .i64 o1,.int .i64 o2,.int .i64 o3,.int .i64 o4,.int .i64 o5,.int .i64 o6,.string o7,.string o8,.int .i64 o9,.int .i64 o10,.int .i64 o11] rfl _ (by rfl)) (by rfl) (by simp[Value.oneCell']) (by have:=HNC.out;unfold maxLen;omega) (by have:=HNC.out;omega) ?_;intro vz wz oz gz qz zz;obtain⟨Az,cz,rfl⟩:=own_slice oz;have GZ:=Lib.hid gz;have HOZ:=Lib.hid oz;clear oz gz qz zz)|(refine stepZ (o:=⟨some 27,_,_,_,_,_⟩) (by rfl) (.tmp 24) (.tmp 26) 22 (by rfl) w1 26 i0 (.agg #[.int .i64 0,.int .i64 0,.int .i64 0,.int .i64 0,.int .i64 0,.int .i64 0,.int .i64 0,.string ⟨#[]⟩,.string ⟨#[]⟩,.int .i64 0,.int .i64 0,.int .i64 0]) 12 112 Tryz.underlying22 hi hz0 hz1 hz2 rfl hsz12 _ l.length (l.flatMap Opn.cells) (by rfl) _ (own_later HOQ.out (by repeat (with_reducible first|exact Grew.refl _|refine Grew.drew ?_|refine Grew.alloc ?_ _))) (GQ.out.trans (by repeat (with_reducible first|exact Grew.refl _|refine Grew.drew ?_|refine Grew.alloc ?_ _))) _ 1 [.int .i64 o0,.int .i64 o1,.int .i64 o2,.int .i64 o3,.int .i64 o4,.int .i64 o5,.int .i64 o6,.string o7,.string o8,.int .i64 o9,.int .i64 o10,.int .i64 o11] (by rfl) (rd_heap LB.out (by rfl)) (by rfl) (by simp[Value.oneCell']) (by have:=HNC.out;unfold maxLen;omega) (by have:=HNC.out;omega) ?_;intro vz wz oz gz qz zz;obtain⟨Az,cz,rfl⟩:=own_slice oz;have GZ:=Lib.hid gz;have HOZ:=Lib.hid oz;clear oz gz qz zz))
   all_goals go_wp2_with fail
   all_goals go_meet
   all_goals exact log_meet GZ.out HOZ.out
  case rest =>
   obtain⟨A7,c7,rfl,HL7,GC⟩:=hcut
   generalize hwB:wc=wB at *
   have HG2:=Lib.hid (HG1.out.trans GC.out)
   have HO2:=Lib.hid (HO1.out.grew GC.out)
   have HX2:=Lib.hid (heapKeep GC.out HX1.out)
   have HL2:=Lib.hid HL7.out
   clear xk0 xk1 xk2 xk3 xk4 xz0 xz1 xz2 xz3 xb0 xb1 xb2 xb3 xb4 xb5 xb6 xb7 xb8 xb9 xb10 xb11 GC HSS HL7 hwB
   obtain⟨xk0,xk1,xk2,xk3,xk4,xz0,xz1,xz2,xz3⟩:=HO2.out.facts
   have HO3:=Lib.hid (HO2.out.grew ((Grew.refl wB).alloc (.cells #[.slice A n c,.slice B m d] 43)))
   have HX3:=Lib.hid (heapKeep ((Grew.refl wB).alloc (.cells #[.slice A n c,.slice B m d] 43)) HX2.out)
   have HL3:=Lib.hid (HL2.out.mono ((Grew.refl wB).alloc (.cells #[.slice A n c,.slice B m d] 43)))
   have HG3:=Lib.hid (HG2.out.alloc (.cells #[.slice A n c,.slice B m d] 43))
   have H83:=Lib.hid (heapNew wB (.cells #[.slice A n c,.slice B m d] 43))
   have H8G:=Lib.hid (show w.heap.size<wB.heap.size from by have:=(Array.getElem?_eq_some_iff.1 HX2.out).1;exact this)
   obtain⟨yk0,yk1,yk2,yk3,yk4,yz0,yz1,yz2,yz3⟩:=HO3.out.facts
   have yb0:(wB.alloc (.cells #[.slice A n c,.slice B m d] 43)).cell? ⟨w.heap.size,0,none⟩=some (.int .i64 o0):=cellOf HX3.out rfl
   have yb1:(wB.alloc (.cells #[.slice A n c,.slice B m d] 43)).cell? ⟨w.heap.size,1,none⟩=some (.int .i64 o1):=cellOf HX3.out rfl
   have yb2:(wB.alloc (.cells #[.slice A n c,.slice B m d] 43)).cell? ⟨w.heap.size,2,none⟩=some (.int .i64 o2):=cellOf HX3.out rfl
   have yb3:(wB.alloc (.cells #[.slice A n c,.slice B m d] 43)).cell? ⟨w.heap.size,3,none⟩=some (.int .i64 o3):=cellOf HX3.out rfl
   have yb4:(wB.alloc (.cells #[.slice A n c,.slice B m d] 43)).cell? ⟨w.heap.size,4,none⟩=some (.int .i64 o4):=cellOf HX3.out rfl
   have yb5:(wB.alloc (.cells #[.slice A n c,.slice B m d] 43)).cell? ⟨w.heap.size,5,none⟩=some (.int .i64 o5):=cellOf HX3.out rfl
   have yb6:(wB.alloc (.cells #[.slice A n c,.slice B m d] 43)).cell? ⟨w.heap.size,6,none⟩=some (.int .i64 o6):=cellOf HX3.out rfl
   have yb7:(wB.alloc (.cells #[.slice A n c,.slice B m d] 43)).cell? ⟨w.heap.size,7,none⟩=some (.string o7):=cellOf HX3.out rfl
   have yb8:(wB.alloc (.cells #[.slice A n c,.slice B m d] 43)).cell? ⟨w.heap.size,8,none⟩=some (.string o8):=cellOf HX3.out rfl
   have yb9:(wB.alloc (.cells #[.slice A n c,.slice B m d] 43)).cell? ⟨w.heap.size,9,none⟩=some (.int .i64 o9):=cellOf HX3.out rfl
   have yb10:(wB.alloc (.cells #[.slice A n c,.slice B m d] 43)).cell? ⟨w.heap.size,10,none⟩=some (.int .i64 o10):=cellOf HX3.out rfl
   have yb11:(wB.alloc (.cells #[.slice A n c,.slice B m d] 43)).cell? ⟨w.heap.size,11,none⟩=some (.int .i64 o11):=cellOf HX3.out rfl
   go_wp2_with fail
   generalize hwD:wB.alloc (.cells #[.slice A n c,.slice B m d] 43)=wD at *
   generalize wB.heap.size=T8 at *
   refine(KR.out _ _ HG3.out HL3.out).mono ?_
   rintro e w2 ⟨rvU,bvU,rfl,htU,gq⟩
   obtain⟨RA,ra,hRA,-⟩:=SlI.open_ (v:=rvU) (l:=U.roots) (tr_i htU)
   subst hRA
   obtain⟨RB,rb,hRB,-⟩:=SlBr.open_ (v:=bvU) (l:=U.brs) (tr_br htU)
   subst hRB
   have hgU:Grew wD (w2.alloc (.cells #[(.slice RA U.roots.length ra),(.slice RB U.brs.length rb)] 43)):=gq.alloc _
   have HO4:=Lib.hid (HO3.out.grew hgU)
   have HX4:=Lib.hid (heapKeep hgU HX3.out)
   have HL4:=Lib.hid (HL3.out.mono hgU)
   have HG4:=Lib.hid (HG3.out.trans hgU)
   have H84:=Lib.hid (heapKeep hgU H83.out)
   have HTU:=Lib.hid (htU.mono ((Grew.refl w2).alloc (.cells #[(.slice RA U.roots.length ra),(.slice RB U.brs.length rb)] 43)))
   have HXX:=Lib.hid (heapNew w2 (.cells #[(.slice RA U.roots.length ra),(.slice RB U.brs.length rb)] 43))
   clear yk0 yk1 yk2 yk3 yk4 yz0 yz1 yz2 yz3 yb0 yb1 yb2 yb3 yb4 yb5 yb6 yb7 yb8 yb9 yb10 yb11 hgU htU gq hwD
   dsimp only
   obtain⟨xk0,-⟩:=HO4.out.facts
   have x0:(w2.alloc (.cells #[(.slice RA U.roots.length ra),(.slice RB U.brs.length rb)] 43)).cell? ⟨w2.heap.size,0,none⟩=some (.slice RA U.roots.length ra):=cellOf HXX.out rfl
   have x1:(w2.alloc (.cells #[(.slice RA U.roots.length ra),(.slice RB U.brs.length rb)] 43)).cell? ⟨w2.heap.size,1,none⟩=some (.slice RB U.brs.length rb):=cellOf HXX.out rfl
   obtain⟨wE,hwE⟩:∃ wE,w2.alloc (.cells #[(.slice RA U.roots.length ra),(.slice RB U.brs.length rb)] 43)=wE:=⟨_,rfl⟩
   rw[hwE] at HO4 HX4 HL4 HG4 H84 HTU x0 x1 xk0
   clear HXX
   by_cases hn:n0=0
   case neg =>
    have hbn:(n0 != 0)=true:=by simpa using hn
    have HF:=Lib.hid hn
    have HQ:=Lib.hid (HQ0.out.trans (if_pos hn))
    clear hn
    go_wp2
    go_ret2
    exact HADM.out _ _ HQ.out HO4.out.g (fun h=>(by cases h))
   case pos =>
     subst hn
     have hbn:((0:Int) != 0)=false:=rfl
     have HQ:=Lib.hid (HQ0.out.trans (if_neg (by decide)))
     clear xk0
     have hne1:KB≠T8:=by have:=HKL.out;have:=H8G.out;omega
     have hne2:MB≠T8:=by have:=HLT.out;have:=H8G.out;omega
     have hne3:w.heap.size≠T8:=by have:=H8G.out;omega
     have hne4:w.heap.size≠KB:=by have:=HKL.out;omega
     have hlo8:w0.heap.size≤T8:=by have:=HO.out.g.size;have:=H8G.out;omega
     have nl8:NoLit wE T8:=noLit_slices H84.out (by simp)
     have h85:=heap_setCell_same wE T8 0 _ _ (.slice RA U.roots.length ra) H84.out
     have nl8b:NoLit (wE.setCell ⟨T8,0,none⟩ (.slice RA U.roots.length ra)) T8:=noLit_slices h85 (by simp)
     have HO5:=Lib.hid ((HO4.out.turn (grownSet wE T8 0 (.slice RA U.roots.length ra)) hlo8 hne1).turn (grownSet _ T8 1 (.slice RB U.brs.length rb)) hlo8 hne1)
     have H85:=Lib.hid (set2 H84.out (.slice RA U.roots.length ra) (.slice RB U.brs.length rb))
     have HL5:=Lib.hid ((HL4.out.turn (Turns.set nl8 0 (.slice RA U.roots.length ra))).turn (Turns.set nl8b 1 (.slice RB U.brs.length rb)))
     have HT5:=Lib.hid ((HTU.out.turn (Turns.set nl8 0 (.slice RA U.roots.length ra))).turn (Turns.set nl8b 1 (.slice RB U.brs.length rb)))
     have HC5:=Lib.hid (((HVC.out.mono HG4.out).turn (Turns.set nl8 0 (.slice RA U.roots.length ra))).turn (Turns.set nl8b 1 (.slice RB U.brs.length rb)))
     have HM5:=Lib.hid (((mapLat HOM.out HG4.out).setCell (a:=⟨T8,0,none⟩) hne2 (.slice RA U.roots.length ra)).setCell (a:=⟨T8,1,none⟩) hne2 (.slice RB U.brs.length rb))
     have HX5:=Lib.hid (heapTurn (grownSet _ T8 1 (.slice RB U.brs.length rb)) (heapTurn (grownSet wE T8 0 (.slice RA U.roots.length ra)) HX4.out (fun r h k=>by cases h;exact hne3 k.symm)) (fun r h k=>by cases h;exact hne3 k.symm))
     have t0:wE.cell? ⟨T8,0,none⟩=some (.slice A n c):=cellOf H84.out rfl
     have t1:wE.cell? ⟨T8,1,none⟩=some (.slice B m d):=cellOf H84.out rfl
     have tz0:wE.frozen? ⟨T8,0,none⟩=false:=freeOf H84.out
     have tz1:wE.frozen? ⟨T8,1,none⟩=false:=freeOf H84.out
     have HNE:=Lib.hid hne1
     have HN4:=Lib.hid hne4
     clear hne1 hne2 hne3 hne4 hlo8 nl8 nl8b h85
     go_wp2_with fail
     clear hwE t0 t1 tz0 tz1 x0 x1 HL4 HTU HX4 H84 HO4 HO3 HX3 HL3 H83 HO2 HX2 HL2
     generalize ((wE.setCell ⟨T8,0,none⟩ (.slice RA U.roots.length ra)).setCell ⟨T8,1,none⟩ (.slice RB U.brs.length rb))=w4 at *
     have HO6:=Lib.hid (HO5.out.setL (E':=A7) (f1:=l.length+1) (f2:=c7))
     have HO6b:=Lib.hid (HO6.out.setA (A':=RA) (f1:=U.roots.length) (f2:=ra))
     have HO7:=Lib.hid (HO6b.out.setB (B':=RB) (f1:=U.brs.length) (f2:=rb))
     have HL7:=Lib.hid (((HL5.out.turn (Turns.set HO5.out.nolit 0 (.slice A7 (l.length+1) c7))).turn (Turns.set HO6.out.nolit 1 (.slice RA U.roots.length ra))).turn (Turns.set HO6b.out.nolit 2 (.slice RB U.brs.length rb)))
     have HT7:=Lib.hid (((HT5.out.turn (Turns.set HO5.out.nolit 0 (.slice A7 (l.length+1) c7))).turn (Turns.set HO6.out.nolit 1 (.slice RA U.roots.length ra))).turn (Turns.set HO6b.out.nolit 2 (.slice RB U.brs.length rb)))
     have HC7:=Lib.hid (((HC5.out.turn (Turns.set HO5.out.nolit 0 (.slice A7 (l.length+1) c7))).turn (Turns.set HO6.out.nolit 1 (.slice RA U.roots.length ra))).turn (Turns.set HO6b.out.nolit 2 (.slice RB U.brs.length rb)))
     have HM7:=Lib.hid (((HM5.out.setCell (a:=⟨KB,0,none⟩) HBM.out (.slice A7 (l.length+1) c7)).setCell (a:=⟨KB,1,none⟩) HBM.out (.slice RA U.roots.length ra)).setCell (a:=⟨KB,2,none⟩) HBM.out (.slice RB U.brs.length rb))
     have HX7:=Lib.hid (heapTurn (grownSet _ KB 2 (.slice RB U.brs.length rb)) (heapTurn (grownSet _ KB 1 (.slice RA U.roots.length ra)) (heapTurn (grownSet w4 KB 0 (.slice A7 (l.length+1) c7)) HX5.out (fun r h k=>by cases h;exact HN4.out k.symm)) (fun r h k=>by cases h;exact HN4.out k.symm)) (fun r h k=>by cases h;exact HN4.out k.symm))
     have H86:=Lib.hid (heapTurn (grownSet w4 KB 0 (.slice A7 (l.length+1) c7)) H85.out (fun r h k=>by cases h;exact HNE.out k))
     have u0:w4.cell? ⟨T8,0,none⟩=some (.slice RA U.roots.length ra):=cellOf H85.out rfl
     have u1:w4.cell? ⟨T8,1,none⟩=some (.slice RB U.brs.length rb):=cellOf H85.out rfl
     have v0:(w4.setCell ⟨KB,0,none⟩ (.slice A7 (l.length+1) c7)).cell? ⟨T8,0,none⟩=some (.slice RA U.roots.length ra):=cellOf H86.out rfl
     have v1:(w4.setCell ⟨KB,0,none⟩ (.slice A7 (l.length+1) c7)).cell? ⟨T8,1,none⟩=some (.slice RB U.brs.length rb):=cellOf H86.out rfl
     obtain⟨zk0,zk1,zk2,-,-,zz0,zz1,zz2,-⟩:=HO5.out.facts
     obtain⟨-,sk1,sk2,-,-,-,sz1,sz2,-⟩:=HO6.out.facts
     go_region
     have HO8:=Lib.hid (HO7.out.grew (Grew.refl _).drew)
     have HL8:=Lib.hid (HL7.out.mono (Grew.refl _).drew)
     have HT8:=Lib.hid (HT7.out.mono (Grew.refl _).drew)
     have HC8:=Lib.hid (HC7.out.mono (Grew.refl _).drew)
     have HM8:=Lib.hid (mapLat HM7.out (Grew.refl _).drew)
     have HX8:=Lib.hid (heapKeep (Grew.refl _).drew HX7.out)
     clear u0 u1 v0 v1 zk0 zk1 zk2 zz0 zz1 zz2 sk1 sk2 sz1 sz2 HO7 HL7 HT7 HC7 HM7 HX7 HO6b HO6 HO5 HL5 HT5 HC5 HM5 HX5 H85 H86
     generalize ((((w4.setCell ⟨KB,0,none⟩ (.slice A7 (l.length+1) c7)).setCell ⟨KB,1,none⟩ (.slice RA U.roots.length ra)).setCell ⟨KB,2,none⟩ (.slice RB U.brs.length rb))).drew=w8 at *
     have HXW:=Lib.hid (Nat.le_trans HO.out.g.size (Nat.le_refl w.heap.size))
     have hk1:(o2 == 1)=false:=by have:=H6.out;subst this;rfl
     have hlen2:=Lib.hid HES.out
     have HC8e:=Lib.hid (show SlC w8 (.slice C (evidF l).length q) (evidF (l++[⟨o0,o1,o2,o3,o4,o5,o6,o7,o8,o9,o10,o11⟩])) from by rw[hlen2.out];exact HC8.out)
     have HNL2:=Lib.hid (show(evidF l).length=(evidF (l++[⟨o0,o1,o2,o3,o4,o5,o6,o7,o8,o9,o10,o11⟩])).length from by rw[hlen2.out])
     have HLS1:=Lib.hid (show no+1≤(l++[(⟨o0,o1,o2,o3,o4,o5,o6,o7,o8,o9,o10,o11⟩:Opn)]).length from by rw[List.length_append,List.length_singleton];have:=HNL.out;omega)
     have HLS:=Lib.hid (show no≤(l++[(⟨o0,o1,o2,o3,o4,o5,o6,o7,o8,o9,o10,o11⟩:Opn)]).length from by rw[List.length_append,List.length_singleton];have:=HNL.out;omega)
     have nb0:w8.cell? ⟨w.heap.size,0,none⟩=some (.int .i64 o0):=cellOf HX8.out rfl
     have nb1:w8.cell? ⟨w.heap.size,1,none⟩=some (.int .i64 o1):=cellOf HX8.out rfl
     have nb2:w8.cell? ⟨w.heap.size,2,none⟩=some (.int .i64 o2):=cellOf HX8.out rfl
     have nb3:w8.cell? ⟨w.heap.size,3,none⟩=some (.int .i64 o3):=cellOf HX8.out rfl
     have nb4:w8.cell? ⟨w.heap.size,4,none⟩=some (.int .i64 o4):=cellOf HX8.out rfl
     have nb5:w8.cell? ⟨w.heap.size,5,none⟩=some (.int .i64 o5):=cellOf HX8.out rfl
     have nb6:w8.cell? ⟨w.heap.size,6,none⟩=some (.int .i64 o6):=cellOf HX8.out rfl
     have nb7:w8.cell? ⟨w.heap.size,7,none⟩=some (.string o7):=cellOf HX8.out rfl
     have nb8:w8.cell? ⟨w.heap.size,8,none⟩=some (.string o8):=cellOf HX8.out rfl
     have nb9:w8.cell? ⟨w.heap.size,9,none⟩=some (.int .i64 o9):=cellOf HX8.out rfl
     have nb10:w8.cell? ⟨w.heap.size,10,none⟩=some (.int .i64 o10):=cellOf HX8.out rfl
     have nb11:w8.cell? ⟨w.heap.size,11,none⟩=some (.int .i64 o11):=cellOf HX8.out rfl
     go_wp2_with fail
     clear nb0 nb1 nb2 nb3 nb4 nb5 nb6 nb7 nb8 nb9 nb10 nb11
     refine(KM.out _).mono ?_
     rintro e w9 ⟨rfl,g9⟩
     have HO9:=Lib.hid (HO8.out.grew g9)
     have HL9:=Lib.hid (HL8.out.mono g9)
     have HT9:=Lib.hid (HT8.out.mono g9)
     have HC9:=Lib.hid (HC8e.out.mono g9)
     have HM9:=Lib.hid (mapLat HM8.out g9)
     clear g9
     go_wp2
     go_ret2
     have HV9:=Lib.hid (show KpVal KB MB (l++[⟨o0,o1,o2,o3,o4,o5,o6,o7,o8,o9,o10,o11⟩]) U (evidF (l++[⟨o0,o1,o2,o3,o4,o5,o6,o7,o8,o9,o10,o11⟩])) (l++[⟨o0,o1,o2,o3,o4,o5,o6,o7,o8,o9,o10,o11⟩]) _ _ _ _ w9 from⟨HL9.out,HT9.out,HC9.out,no,D,HM9.out,HLS.out,HSKIP.out (by trivial)⟩)
     exact HADM.out (U,-1,0) _ HQ.out HO9.out.g (fun _=>keep_shut HNL2.out HO9.out HV9.out)
end Go.Proofs.YtdochkemaiokfaaGreat