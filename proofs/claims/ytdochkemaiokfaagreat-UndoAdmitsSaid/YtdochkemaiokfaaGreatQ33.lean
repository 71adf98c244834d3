/- Lemmas on what the functions of the program and of the library compute: UnG, UnH, UnI, UnJ, UnL, PlainUk, RSa, RF1. The conditions stand at each. -/
import Derived.Deep.CutRange
import Derived.Deep.RegionHeld3
import Derived.BigQuiet
import Derived.Test.YtdochkemaiokfaaGreatQ32
import Derived.Test.YtdochkemaiokfaaGreatQ30
import Derived.Test.YtdochkemaiokfaaGreatQ29
import Derived.Test.YtdochkemaiokfaaGreatQ31
import Derived.Test.YtdochkemaiokfaaGreatQ8
import Derived.Test.YtdochkemaiokfaaGreatQ2
import Derived.Test.YtdochkemaiokfaaGreatQ15
import Derived.Test.YtdochkemaiokfaaGreatQ10
import Derived.Test.YtdochkemaiokfaaGreatQ3
import Derived.Test.YtdochkemaiokfaaGreatQ4
import Derived.Test.YtdochkemaiokfaaGreatQ1
import Derived.Test.YtdochkemaiokfaaGreatQ9
set_option maxHeartbeats 16000000
set_option maxRecDepth 100000
set_option linter.all false
namespace Go.Proofs.YtdochkemaiokfaaGreat
open Go.RowKit Go.Maps
theorem c_9 {p:Prop} (h:p:=by
 go_region_held3 (fun W=>W.cell? ⟨KB,0,none⟩=some (.slice E l.length k)∧W.cell? ⟨w.heap.size,0,none⟩=some (.int .i64 o0)∧W.cell? ⟨w.heap.size,1,none⟩=some (.int .i64 o1)∧W.cell? ⟨w.heap.size,2,none⟩=some (.int .i64 o2)∧W.cell? ⟨w.heap.size,3,none⟩=some (.int .i64 o3)∧W.cell? ⟨w.heap.size,4,none⟩=some (.int .i64 o4)∧W.cell? ⟨w.heap.size,5,none⟩=some (.int .i64 o5)∧W.cell? ⟨w.heap.size,6,none⟩=some (.int .i64 o6)∧W.cell? ⟨w.heap.size,7,none⟩=some (.string o7)∧W.cell? ⟨w.heap.size,8,none⟩=some (.string o8)∧W.cell? ⟨w.heap.size,9,none⟩=some (.int .i64 o9)∧W.cell? ⟨w.heap.size,10,none⟩=some (.int .i64 o10)∧W.cell? ⟨w.heap.size,11,none⟩=some (.int .i64 o11)∧aA w1 W) (refine HSS.out _ b_10) (first|(go_at_call 15;with_reducible refine(KCL.out _ _ (HVL.out.mono (HG1.out.trans b_20))).mono ?_;rintro e wq ⟨vq,rfl,hoq,gq⟩;obtain⟨Aq,cq,rfl⟩:=aJ hoq;have GQ:=uZ (show aA w1 wq from uY b_20 gq);have HOQ:=uZ (aCo hoq (show w1.heap.size≤_ from aA.size b_20));(try (have hdr:aA (w1.alloc (.cells [.int .i64 o0,.int .i64 o1,.int .i64 o2,.int .i64 o3,.int .i64 o4,.int .i64 o5,.int .i64 o6,.string o7,.string o8,.int .i64 o9,.int .i64 o10,.int .i64 o11].toArray 26)).drew wq:=b_44;have LB:=uZ (aD (uY (uX _).drew hdr) (aO w1 (.cells [.int .i64 o0,.int .i64 o1,.int .i64 o2,.int .i64 o3,.int .i64 o4,.int .i64 o5,.int .i64 o6,.string o7,.string o8,.int .i64 o9,.int .i64 o10,.int .i64 o11].toArray 26)))));(try (have hdr:aA (w1.alloc (.cells [.int .i64 o0,.int .i64 o1,.int .i64 o2,.int .i64 o3,.int .i64 o4,.int .i64 o5,.int .i64 o6,.string o7,.string o8,.int .i64 o9,.int .i64 o10,.int .i64 o11].toArray 26)) wq:=b_44;have LB:=uZ (aD hdr (aO w1 (.cells [.int .i64 o0,.int .i64 o1,.int .i64 o2,.int .i64 o3,.int .i64 o4,.int .i64 o5,.int .i64 o6,.string o7,.string o8,.int .i64 o9,.int .i64 o10,.int .i64 o11].toArray 26)))));clear hoq gq)|(refine eM (o:=⟨some 27,_,_,_,_,_⟩) b_55 (.tmp 24) (.tmp 26) 22 b_55 w1 26 i0 (.agg #[.int .i64 0,.int .i64 0,.int .i64 0,.int .i64 0,.int .i64 0,.int .i64 0,.int .i64 0,.string ⟨#[]⟩,.string ⟨#[]⟩,.int .i64 0,.int .i64 0,.int .i64 0]) 12 112 Tryz.underlying22 hi hz0 hz1 hz2 rfl hsz12 _ l.length (l.flatMap Opn.cells) b_55 _ (aZ HOQ.out b_20) (GQ.out.trans b_20) _ 1 [.int .i64 o0,.int .i64 o1,.int .i64 o2,.int .i64 o3,.int .i64 o4,.int .i64 o5,.int .i64 o6,.string o7,.string o8,.int .i64 o9,.int .i64 o10,.int .i64 o11] b_55 (gE [.int .i64 o0,.int .i64 o1,.int .i64 o2,.int .i64 o3,.int .i64 o4,.int .i64 o5,.int .i64 o6,.string o7,.string o8,.int .i64 o9,.int .i64 o10,.int .i64 o11] rfl _ b_55) b_55 b_45 (by have:=HNC.out;unfold maxLen;omega) (by have:=HNC.out;omega) ?_;intro vz wz oz gz qz zz;obtain⟨Az,cz,rfl⟩:=aJ oz;have GZ:=uZ gz;have HOZ:=uZ oz;clear oz gz qz zz)|(refine eM (o:=⟨some 27,_,_,_,_,_⟩) b_55 (.tmp 24) (.tmp 26) 22 b_55 w1 26 i0 (.agg #[.int .i64 0,.int .i64 0,.int .i64 0,.int .i64 0,.int .i64 0,.int .i64 0,.int .i64 0,.string ⟨#[]⟩,.string ⟨#[]⟩,.int .i64 0,.int .i64 0,.int .i64 0]) 12 112 Tryz.underlying22 hi hz0 hz1 hz2 rfl hsz12 _ l.length (l.flatMap Opn.cells) b_55 _ (aZ HOQ.out b_20) (GQ.out.trans b_20) _ 1 [.int .i64 o0,.int .i64 o1,.int .i64 o2,.int .i64 o3,.int .i64 o4,.int .i64 o5,.int .i64 o6,.string o7,.string o8,.int .i64 o9,.int .i64 o10,.int .i64 o11] b_55 (aKu LB.out b_55) b_55 b_45 (by have:=HNC.out;unfold maxLen;omega) (by have:=HNC.out;omega) ?_;intro vz wz oz gz qz zz;obtain⟨Az,cz,rfl⟩:=aJ oz;have GZ:=uZ gz;have HOZ:=uZ oz;clear oz gz qz zz))
 all_goals go_wp2_with fail
 all_goals go_meet
 all_goals exact aFf GZ.out HOZ.out
):p:=h
theorem h_9 {p:Prop} (h:p:=by
 exact uZ (show pP KB MB (l++[⟨o0,o1,o2,o3,o4,o5,o6,o7,o8,o9,o10,o11⟩]) U (aW (l++[⟨o0,o1,o2,o3,o4,o5,o6,o7,o8,o9,o10,o11⟩])) (l++[⟨o0,o1,o2,o3,o4,o5,o6,o7,o8,o9,o10,o11⟩]) _ _ _ _ w9 from⟨HL9.out,HT9.out,HC9.out,no,D,HM9.out,HLS.out,HSKIP.out (by trivial)⟩)
):p:=h
theorem c_40 {p:Prop} (h:p:=by
 refine(KM.out _).mono ?_;rintro e w9 ⟨rfl,g9⟩;have HO9:=uZ (HO8.out.grew g9);have HL9:=uZ (HL8.out.mono g9);have HT9:=uZ (HT8.out.mono g9);have HC9:=uZ (HC8e.out.mono g9);have HM9:=uZ (gT HM8.out g9);clear g9;go_wp2;go_ret2;have HV9:=h_9;exact HADM.out (U,-1,0) _ HQ.out HO9.out.g (fun _=>mC HNL2.out HO9.out HV9.out)
):p:=h
theorem c_70 {p:Prop} (h:p:=by
 have hb:(FK != 0)=true:=by simpa using hf
 have HF:=uZ hf;have HQ:=uZ (HATT.out.trans (if_pos hf));clear hf;go_wp2;go_ret2;exact HADM.out _ _ HQ.out HO1.out.g (fun h=>absurd h HF.out)
):p:=h
theorem h_1 {p:Prop} (h:p:=by
 exact uZ (fun W (g:aA w1 W)=>(⟨uQ g xk0,uQ g xb0,uQ g xb1,uQ g xb2,uQ g xb3,uQ g xb4,uQ g xb5,uQ g xb6,uQ g xb7,uQ g xb8,uQ g xb9,uQ g xb10,uQ g xb11,g⟩:W.cell? ⟨KB,0,none⟩=some (.slice E l.length k)∧W.cell? ⟨w.heap.size,0,none⟩=some (.int .i64 o0)∧W.cell? ⟨w.heap.size,1,none⟩=some (.int .i64 o1)∧W.cell? ⟨w.heap.size,2,none⟩=some (.int .i64 o2)∧W.cell? ⟨w.heap.size,3,none⟩=some (.int .i64 o3)∧W.cell? ⟨w.heap.size,4,none⟩=some (.int .i64 o4)∧W.cell? ⟨w.heap.size,5,none⟩=some (.int .i64 o5)∧W.cell? ⟨w.heap.size,6,none⟩=some (.int .i64 o6)∧W.cell? ⟨w.heap.size,7,none⟩=some (.string o7)∧W.cell? ⟨w.heap.size,8,none⟩=some (.string o8)∧W.cell? ⟨w.heap.size,9,none⟩=some (.int .i64 o9)∧W.cell? ⟨w.heap.size,10,none⟩=some (.int .i64 o10)∧W.cell? ⟨w.heap.size,11,none⟩=some (.int .i64 o11)∧aA w1 W))
):p:=h
theorem h_6 {p:Prop} (h:p:=by
 exact uZ (fun(W:World) (hW:aA (w.alloc (.cells #[.int .i64 o0,.int .i64 o1,.int .i64 o2,.int .i64 o3,.int .i64 o4,.int .i64 o5,.int .i64 o6,.string o7,.string o8,.int .i64 o9,.int .i64 o10,.int .i64 o11] 26)) W)=>aD hW (aO w (.cells #[.int .i64 o0,.int .i64 o1,.int .i64 o2,.int .i64 o3,.int .i64 o4,.int .i64 o5,.int .i64 o6,.string o7,.string o8,.int .i64 o9,.int .i64 o10,.int .i64 o11] 26)))
):p:=h
theorem h_7 {p:Prop} (h:p:=by
 exact uZ (show pP KB MB (l++[⟨o0,o1,o2,o3,o4,o5,o6,o7,o8,o9,o10,o11⟩]) U (aW (l++[⟨o0,o1,o2,o3,o4,o5,o6,o7,o8,o9,o10,o11⟩])) (l++[⟨o0,o1,o2,o3,o4,o5,o6,o7,o8,o9,o10,o11⟩]) _ _ _ _ w10 from⟨(HL9.out.mono (uX w9).drew).turn TM.out,(HT9.out.mono (uX w9).drew).turn TM.out,(HC9.out.mono (uX w9).drew).turn TM.out,no+1,_,hM10,HLS1.out,HPUT.out (by trivial)⟩)
):p:=h
theorem h_10 {p:Prop} (h:p:=by
 exact uZ (bY (dO _ KB 2 (.slice RB U.brs.length rb)) (bY (dO _ KB 1 (.slice RA U.roots.length ra)) (bY (dO w4 KB 0 (.slice A7 (l.length+1) c7)) HX5.out (fun r h k=>by cases h;exact HN4.out k.symm)) (fun r h k=>by cases h;exact HN4.out k.symm)) (fun r h k=>by cases h;exact HN4.out k.symm))
):p:=h
theorem h_12 {p:Prop} (h:p:=by
 exact(show ∀(x:Tr × Int × Int) (W:World),bF l (aG l).1 o=x→aA w0 W→(x.2.2=0→fG w0 KB MB (l++[o]) x.1 W)→tP w0 KB MB l o (bF l (aG l).1 o) (.returned (.tuple #[.int .i64 x.2.1,.int .i64 x.2.2])) W from fun x W h hg h2=>⟨by rw[h],hg,by rw[h];exact h2⟩)
):p:=h
theorem h_19 {p:Prop} (h:p:=by
 exact uZ (((HM5.out.setCell (a:=⟨KB,0,none⟩) HBM.out (.slice A7 (l.length+1) c7)).setCell (a:=⟨KB,1,none⟩) HBM.out (.slice RA U.roots.length ra)).setCell (a:=⟨KB,2,none⟩) HBM.out (.slice RB U.brs.length rb))
):p:=h
theorem h_28 {p:Prop} (h:p:=by
 exact uZ (((HL5.out.turn (dB.set HO5.out.nolit 0 (.slice A7 (l.length+1) c7))).turn (dB.set HO6.out.nolit 1 (.slice RA U.roots.length ra))).turn (dB.set HO6b.out.nolit 2 (.slice RB U.brs.length rb)))
):p:=h
theorem h_29 {p:Prop} (h:p:=by
 exact uZ (((HT5.out.turn (dB.set HO5.out.nolit 0 (.slice A7 (l.length+1) c7))).turn (dB.set HO6.out.nolit 1 (.slice RA U.roots.length ra))).turn (dB.set HO6b.out.nolit 2 (.slice RB U.brs.length rb)))
):p:=h
theorem h_30 {p:Prop} (h:p:=by
 exact uZ (((HC5.out.turn (dB.set HO5.out.nolit 0 (.slice A7 (l.length+1) c7))).turn (dB.set HO6.out.nolit 1 (.slice RA U.roots.length ra))).turn (dB.set HO6b.out.nolit 2 (.slice RB U.brs.length rb)))
):p:=h
theorem h_31 {p:Prop} (h:p:=by
 exact uZ (bY (dO _ T8 1 (.slice RB U.brs.length rb)) (bY (dO wE T8 0 (.slice RA U.roots.length ra)) HX4.out (fun r h k=>by cases h;exact hne3 k.symm)) (fun r h k=>by cases h;exact hne3 k.symm))
):p:=h
theorem h_37 {p:Prop} (h:p:=by
 exact uZ (show no+1≤(l++[(⟨o0,o1,o2,o3,o4,o5,o6,o7,o8,o9,o10,o11⟩:Opn)]).length from by rw[List.length_append,List.length_singleton];have:=HNL.out;omega)
):p:=h
theorem h_40 {p:Prop} (h:p:=by
 exact uZ (show no≤(l++[(⟨o0,o1,o2,o3,o4,o5,o6,o7,o8,o9,o10,o11⟩:Opn)]).length from by rw[List.length_append,List.length_singleton];have:=HNL.out;omega)
):p:=h
theorem h_48 {p:Prop} (h:p:=by
 exact uZ (((gT HOM.out HG4.out).setCell (a:=⟨T8,0,none⟩) hne2 (.slice RA U.roots.length ra)).setCell (a:=⟨T8,1,none⟩) hne2 (.slice RB U.brs.length rb))
):p:=h
theorem h_55 {p:Prop} (h:p:=by
 exact uZ (show SlC w8 (.slice C (aW l).length q) (aW (l++[⟨o0,o1,o2,o3,o4,o5,o6,o7,o8,o9,o10,o11⟩])) from by rw[hlen2.out];exact HC8.out)
):p:=h
theorem h_57 {p:Prop} (h:p:=by
 exact(show(w4.setCell ⟨KB,0,none⟩ (.slice A7 (l.length+1) c7)).cell? ⟨T8,0,none⟩=some (.slice RA U.roots.length ra) from aC H86.out rfl)
):p:=h
theorem h_59 {p:Prop} (h:p:=by
 exact(show(w4.setCell ⟨KB,0,none⟩ (.slice A7 (l.length+1) c7)).cell? ⟨T8,1,none⟩=some (.slice RB U.brs.length rb) from aC H86.out rfl)
):p:=h
theorem h_63 {p:Prop} (h:p:=by
 exact uZ (((HVC.out.mono HG4.out).turn (dB.set nl8 0 (.slice RA U.roots.length ra))).turn (dB.set nl8b 1 (.slice RB U.brs.length rb)))
):p:=h
theorem h_65 {p:Prop} (h:p:=by
 exact uZ ((HO4.out.turn (dO wE T8 0 (.slice RA U.roots.length ra)) hlo8 hne1).turn (dO _ T8 1 (.slice RB U.brs.length rb)) hlo8 hne1)
):p:=h
theorem h_75 {p:Prop} (h:p:=by
 exact uZ (show(aW l).length=(aW (l++[⟨o0,o1,o2,o3,o4,o5,o6,o7,o8,o9,o10,o11⟩])).length from by rw[hlen2.out])
):p:=h
theorem h_89 {p:Prop} (h:p:=by
 exact uZ ((HL4.out.turn (dB.set nl8 0 (.slice RA U.roots.length ra))).turn (dB.set nl8b 1 (.slice RB U.brs.length rb)))
):p:=h
theorem h_90 {p:Prop} (h:p:=by
 exact uZ ((HTU.out.turn (dB.set nl8 0 (.slice RA U.roots.length ra))).turn (dB.set nl8b 1 (.slice RB U.brs.length rb)))
):p:=h
theorem h_113 {p:Prop} (h:p:=by
 exact uZ (show w.heap.size<wB.heap.size from by have:=(Array.getElem?_eq_some_iff.1 HX2.out).1;exact this)
):p:=h
theorem h_212 {p:Prop} (h:p:=by
 exact(show(n0 != 0)=true from by simpa using hn)
):p:=h
theorem s_11 {p:Prop} (h:p:=by
 have hne1:KB≠T8:=by have:=HKL.out;have:=H8G.out;omega
 have hne2:MB≠T8:=by have:=HLT.out;have:=H8G.out;omega
 have hne3:w.heap.size≠T8:=by have:=H8G.out;omega
 have hne4:w.heap.size≠KB:=by have:=HKL.out;omega
 have hlo8:w0.heap.size≤T8:=by have:=HO.out.g.size;have:=H8G.out;omega
 have nl8:jV wE T8:=cH H84.out b_54;have h85:=heap_setCell_same wE T8 0 _ _ (.slice RA U.roots.length ra) H84.out;have nl8b:jV (wE.setCell ⟨T8,0,none⟩ (.slice RA U.roots.length ra)) T8:=cH h85 b_54;have HO5:=h_65;have H85:=uZ (aTa H84.out (.slice RA U.roots.length ra) (.slice RB U.brs.length rb));have HL5:=h_89;have HT5:=h_90;have HC5:=h_63;have HM5:=h_48;have HX5:=h_31;have t0:wE.cell? ⟨T8,0,none⟩=some (.slice A n c):=aC H84.out rfl;have t1:wE.cell? ⟨T8,1,none⟩=some (.slice B m d):=aC H84.out rfl;have tz0:wE.frozen? ⟨T8,0,none⟩=false:=aS H84.out;have tz1:wE.frozen? ⟨T8,1,none⟩=false:=aS H84.out;have HNE:=uZ hne1;have HN4:=uZ hne4;clear hne1 hne2 hne3 hne4 hlo8 nl8 nl8b h85;go_wp2_with fail;exact nX.g
):p:=h
theorem s_12 {p:Prop} (h:p:=by
 obtain⟨A7,c7,rfl,HL7,GC⟩:=hcut;generalize hwB:wc=wB at *;have HG2:=uZ (HG1.out.trans GC.out);have HO2:=uZ (HO1.out.grew GC.out);have HX2:=uZ (aD GC.out HX1.out);have HL2:=uZ HL7.out;clear xk0 xk1 xk2 xk3 xk4 xz0 xz1 xz2 xz3 xb0 xb1 xb2 xb3 xb4 xb5 xb6 xb7 xb8 xb9 xb10 xb11 GC HSS HL7 hwB;obtain⟨xk0,xk1,xk2,xk3,xk4,xz0,xz1,xz2,xz3⟩:=HO2.out.facts;have HO3:=uZ (HO2.out.grew ((uX wB).alloc (.cells #[.slice A n c,.slice B m d] 43)));have HX3:=uZ (aD ((uX wB).alloc (.cells #[.slice A n c,.slice B m d] 43)) HX2.out);have HL3:=uZ (HL2.out.mono ((uX wB).alloc (.cells #[.slice A n c,.slice B m d] 43)));have HG3:=uZ (HG2.out.alloc (.cells #[.slice A n c,.slice B m d] 43));have H83:=uZ (aO wB (.cells #[.slice A n c,.slice B m d] 43));have H8G:=h_113;obtain⟨yk0,yk1,yk2,yk3,yk4,yz0,yz1,yz2,yz3⟩:=HO3.out.facts;obtain⟨yb0,yb1,yb2,yb3,yb4,yb5,yb6,yb7,yb8,yb9,yb10,yb11⟩:=vS HX3.out;go_wp2_with fail;generalize hwD:wB.alloc (.cells #[.slice A n c,.slice B m d] 43)=wD at *;generalize wB.heap.size=T8 at *;exact nX.g
):p:=h
theorem s_15 {p:Prop} (h:p:=by
 generalize ((wE.setCell ⟨T8,0,none⟩ (.slice RA U.roots.length ra)).setCell ⟨T8,1,none⟩ (.slice RB U.brs.length rb))=w4 at *;have HO6:=uZ (HO5.out.setL (E':=A7) (f1:=l.length+1) (f2:=c7));have HO6b:=uZ (HO6.out.setA (A':=RA) (f1:=U.roots.length) (f2:=ra));have HO7:=uZ (HO6b.out.setB (B':=RB) (f1:=U.brs.length) (f2:=rb));have HL7:=h_28;have HT7:=h_29;have HC7:=h_30;have HM7:=h_19;have HX7:=h_10;have H86:=uZ (bY (dO w4 KB 0 (.slice A7 (l.length+1) c7)) H85.out (fun r h k=>by cases h;exact HNE.out k));have u0:w4.cell? ⟨T8,0,none⟩=some (.slice RA U.roots.length ra):=aC H85.out rfl;have u1:w4.cell? ⟨T8,1,none⟩=some (.slice RB U.brs.length rb):=aC H85.out rfl;have v0:=h_57;have v1:=h_59;obtain⟨zk0,zk1,zk2,-,-,zz0,zz1,zz2,-⟩:=HO5.out.facts;obtain⟨-,sk1,sk2,-,-,-,sz1,sz2,-⟩:=HO6.out.facts;exact nX.g
):p:=h
theorem s_29 {p:Prop} (h:p:=by
 have HO8:=uZ (HO7.out.grew (uX _).drew);have HL8:=uZ (HL7.out.mono (uX _).drew);have HT8:=uZ (HT7.out.mono (uX _).drew);have HC8:=uZ (HC7.out.mono (uX _).drew);have HM8:=uZ (gT HM7.out (uX _).drew);have HX8:=uZ (aD (uX _).drew HX7.out);clear u0 u1 v0 v1 zk0 zk1 zk2 zz0 zz1 zz2 sk1 sk2 sz1 sz2 HO7 HL7 HT7 HC7 HM7 HX7 HO6b HO6 HO5 HL5 HT5 HC5 HM5 HX5 H85 H86;generalize ((((w4.setCell ⟨KB,0,none⟩ (.slice A7 (l.length+1) c7)).setCell ⟨KB,1,none⟩ (.slice RA U.roots.length ra)).setCell ⟨KB,2,none⟩ (.slice RB U.brs.length rb))).drew=w8 at *;have HXW:=uZ (Nat.le_trans HO.out.g.size (Nat.le_refl w.heap.size));exact nX.g
):p:=h
def tP (w0:World) (KB MB:Nat) (l:List Opn) (o:Opn) (R:Tr × Int × Int) (e:Ending) (w':World):Prop:=e=.returned (.tuple #[.int .i64 R.2.1,.int .i64 R.2.2])∧aA w0 w'∧(R.2.2=0→fG w0 KB MB (l++[o]) R.1 w')
def aOr (WA:World) (l:List Opn) (o:Opn) (s7:Value) (wx:World):Prop:=∃ A c,s7=.slice A (l.length+1) c∧Aside (SlO wx (.slice A (l.length+1) c) (l++[o]))∧Aside (aA WA wx)
theorem aFf {WA W:World} {base:Nat} {l:List Opn} {o:Opn} {A:Option Addr} {c:Nat} (hG:aA WA W) (ho:W.ownsRow base 26 12 (.slice A (l.length+1) c) (l.length+1) (l.flatMap Opn.cells++o.cells)):aOr WA l o (.slice A (l.length+1) c) W :=
 ⟨A,c,rfl,(show Aside _ from by
  have h:SlO W (.slice A (l.length+1) c) (l++[o]):=by
   unfold SlO;rw[List.flatMap_append,List.flatMap_cons,List.flatMap_nil,List.append_nil];exact Rd.of_own ho
  exact h),(show Aside _ from hG)⟩
theorem yV {W W':World} {MB n:Nat} {D:DataW Unit} (h:W.ownsMap Tryz.prog 9 (plainElem Tryz.prog 3) MB n D) (hg:W.grownBy W' (some MB)):dB W W':=by
 obtain⟨es,clock,hb,-⟩:=h;exact⟨some MB,hg,fun _ e=>by cases e;exact oF (fun o ho=>by rw[hb] at ho;cases ho;rfl)⟩
theorem aEr {W:World} {rv bv:Value} {t:Tr} (h:dF W rv bv t):SlI W rv t.roots:=h.1
theorem oR {W:World} {rv bv:Value} {t:Tr} (h:dF W rv bv t):bQ W bv t.brs:=h.2
theorem aSf {l:List Opn} {t:Tr} {o:Opn} (h:o.kind≠6):bF l t o=if eX l o≠0 then(t,-1,eX l o) else if (aT t o).2≠0 then(t,(l.length:Int),(aT t o).2) else((aT t o).1,-1,0):=by
 unfold bF;rw[if_neg h]
theorem aIt {l:List Opn} {t:Tr} {o:Opn} (h:o.kind=6):bF l t o=if eX l o≠0 then(t,-1,eX l o) else if (aG (l++[o])).2.2≠0 then(t,(aG (l++[o])).2.1,20) else((aG (l++[o])).1,-1,0):=by
 unfold bF;rw[if_pos h]
theorem mC {w0 W:World} {KB MB:Nat} {l:List Opn} {o:Opn} {t:Tr} {E A B C:Option Addr} {k n c m d e q:Nat} (hq:e=(aW (l++[o])).length) (h:eU w0 KB MB E (l.length+1) k A n c B m d C e q W) (h2:pP KB MB (l++[o]) t (aW (l++[o])) (l++[o]) (.slice E (l.length+1) k) (.slice A n c) (.slice B m d) (.slice C e q) W):fG w0 KB MB (l++[o]) t W:=by
 subst hq;have hl:l.length+1=(l++[o]).length:=by simp
 rw[hl] at h h2;exact fG.shut h h2
theorem aKu {W:World} {size H:Nat} {e:TypeId} {fr:Nat × Nat} {cs:List Value} (h:W.heap[H]? = some (.cells cs.toArray e fr)) (hl:cs.length=size):Rd W size (.slice (some ⟨H,0,none⟩) 1 1) cs :=
 eO b_53 b_47 (Array.getElem?_eq_some_iff.1 h).1 (fun j u hu=>aC h (by simpa using hu))
def zEc:=Unit
def zEq:=Unit
def zF0:=Unit
theorem zF0.g {p:Prop} (_:zF0) (h:p:=by
 cases hk1:(o2 == 1)
 case false =>
  have hlen2:=uZ (HES.out (by simpa using hk1));have HC8e:=h_55;have HNL2:=h_75;have HLS1:=h_37;have HLS:=h_40;obtain⟨nb0,nb1,nb2,nb3,nb4,nb5,nb6,nb7,nb8,nb9,nb10,nb11⟩:=vS HX8.out;go_wp2_with fail;clear nb0 nb1 nb2 nb3 nb4 nb5 nb6 nb7 nb8 nb9 nb10 nb11;cases M0
  case false =>
   exact c_40
  case true =>
   refine(KM.out _).mono ?_;rintro e w9 ⟨rfl,g9⟩;have HO9:=uZ (HO8.out.grew g9);have HL9:=uZ (HL8.out.mono g9);have HT9:=uZ (HT8.out.mono g9);have HC9:=uZ (HC8e.out.mono g9);have HM9:=uZ (gT HM8.out g9);have HX9:=uZ (aD g9 HX8.out);clear g9;dsimp only;have mb3:w9.cell? ⟨w.heap.size,3,none⟩=some (.int .i64 o3):=aC HX9.out rfl;have mb8:w9.cell? ⟨w.heap.size,8,none⟩=some (.string o8):=aC HX9.out rfl;obtain⟨-,-,-,-,mk4,-⟩:=HO9.out.facts;obtain⟨w10,hrun,hM10,hg10⟩:=(gT HM9.out (uX w9).drew).update aAc Tryz.underlying79 (by have:=HNL.out;have:=HNC.out;unfold maxLen;omega) HKEY.out (plainElem_int Tryz.underlying3 HWU.out);go_wp2_with fail
   go_region
   clear mb3 mb8 mk4 hrun;have TM:=uZ (yV (gT HM9.out (uX w9).drew) hg10);have HOT:=uZ ((HO9.out.grew (uX w9).drew).turn hg10 HO.out.mb HBM.out.symm);have HVT:=h_7;clear hM10 hg10;go_wp2;go_ret2;exact HADM.out (U,-1,0) _ HQ.out HOT.out.g (fun _=>mC HNL2.out HOT.out HVT.out)
 case true =>
  obtain⟨nb0,nb1,nb2,nb3,nb4,nb5,nb6,nb7,nb8,nb9,nb10,nb11⟩:=vS HX8.out;obtain⟨-,-,-,nk3,-,-,-,-,nz3⟩:=HO8.out.facts;have HADL:=uZ (HSN.out (by rw[HQ.out]));go_wp2_with fail;refine(KE.out HADL.out _ _ HL8.out).mono ?_;rintro e wp ⟨AC,qC,rfl,oC,gp⟩;have HOP:=uZ (HO8.out.grew gp);have HLP:=uZ (HL8.out.mono gp);have HTP:=uZ (HT8.out.mono gp);have HMP:=uZ (gT HM8.out gp);have HXP:=uZ (aD gp HX8.out);have HCP:=uZ (show SlC wp (.slice AC (aW (l++[(⟨o0,o1,o2,o3,o4,o5,o6,o7,o8,o9,o10,o11⟩:Opn)])).length qC) (aW (l++[(⟨o0,o1,o2,o3,o4,o5,o6,o7,o8,o9,o10,o11⟩:Opn)])) from Rd.of_own oC);clear oC gp nk3 nz3 nb0 nb1 nb2 nb3 nb4 nb5 nb6 nb7 nb8 nb9 nb10 nb11;dsimp only;obtain⟨-,-,-,nk3,-,-,-,-,nz3⟩:=HOP.out.facts;have HOR:=uZ (HOP.out.setC (C':=AC) (f1:=(aW (l++[⟨o0,o1,o2,o3,o4,o5,o6,o7,o8,o9,o10,o11⟩])).length) (f2:=qC));have HLR:=uZ (HLP.out.turn (dB.set HOP.out.nolit 3 (.slice AC (aW (l++[(⟨o0,o1,o2,o3,o4,o5,o6,o7,o8,o9,o10,o11⟩:Opn)])).length qC)));have HTR:=uZ (HTP.out.turn (dB.set HOP.out.nolit 3 (.slice AC (aW (l++[(⟨o0,o1,o2,o3,o4,o5,o6,o7,o8,o9,o10,o11⟩:Opn)])).length qC)));have HCR:=uZ (HCP.out.turn (dB.set HOP.out.nolit 3 (.slice AC (aW (l++[(⟨o0,o1,o2,o3,o4,o5,o6,o7,o8,o9,o10,o11⟩:Opn)])).length qC)));have HMR:=uZ (HMP.out.setCell (a:=⟨KB,3,none⟩) HBM.out (.slice AC (aW (l++[(⟨o0,o1,o2,o3,o4,o5,o6,o7,o8,o9,o10,o11⟩:Opn)])).length qC));have HXR:=uZ (bY (dO wp KB 3 (.slice AC (aW (l++[(⟨o0,o1,o2,o3,o4,o5,o6,o7,o8,o9,o10,o11⟩:Opn)])).length qC)) HXP.out (fun r h k=>by cases h;exact HN4.out k.symm));obtain⟨wr,hwr⟩:∃ wr,wp.setCell ⟨KB,3,none⟩ (.slice AC (aW (l++[(⟨o0,o1,o2,o3,o4,o5,o6,o7,o8,o9,o10,o11⟩:Opn)])).length qC)=wr:=⟨_,rfl⟩
  rw[hwr] at HOR HLR HTR HCR HMR HXR;obtain⟨nb0,nb1,nb2,nb3,nb4,nb5,nb6,nb7,nb8,nb9,nb10,nb11⟩:=vS HXR.out;have HLS1:=h_37;have HLS:=h_40;go_wp2_with fail;clear nk3 nz3 hwr nb0 nb1 nb2 nb3 nb4 nb5 nb6 nb7 nb8 nb9 nb10 nb11;cases M0
  case false =>
   refine(KM.out _).mono ?_;rintro e w9 ⟨rfl,g9⟩;have HO9:=uZ (HOR.out.grew g9);have HL9:=uZ (HLR.out.mono g9);have HT9:=uZ (HTR.out.mono g9);have HC9:=uZ (HCR.out.mono g9);have HM9:=uZ (gT HMR.out g9);clear g9;go_wp2;go_ret2;have HV9:=h_9;exact HADM.out (U,-1,0) _ HQ.out HO9.out.g (fun _=>mC rfl HO9.out HV9.out)
  case true =>
   refine(KM.out _).mono ?_;rintro e w9 ⟨rfl,g9⟩;have HO9:=uZ (HOR.out.grew g9);have HL9:=uZ (HLR.out.mono g9);have HT9:=uZ (HTR.out.mono g9);have HC9:=uZ (HCR.out.mono g9);have HM9:=uZ (gT HMR.out g9);have HX9:=uZ (aD g9 HXR.out);clear g9;dsimp only;have mb3:w9.cell? ⟨w.heap.size,3,none⟩=some (.int .i64 o3):=aC HX9.out rfl;have mb8:w9.cell? ⟨w.heap.size,8,none⟩=some (.string o8):=aC HX9.out rfl;obtain⟨-,-,-,-,mk4,-⟩:=HO9.out.facts;obtain⟨w10,hrun,hM10,hg10⟩:=(gT HM9.out (uX w9).drew).update aAc Tryz.underlying79 (by have:=HNL.out;have:=HNC.out;unfold maxLen;omega) HKEY.out (plainElem_int Tryz.underlying3 HWU.out);go_wp2_with fail
   go_region
   clear mb3 mb8 mk4 hrun;have TM:=uZ (yV (gT HM9.out (uX w9).drew) hg10);have HOT:=uZ ((HO9.out.grew (uX w9).drew).turn hg10 HO.out.mb HBM.out.symm);have HVT:=h_7;clear hM10 hg10;go_wp2;go_ret2;exact HADM.out (U,-1,0) _ HQ.out HOT.out.g (fun _=>mC rfl HOT.out HVT.out)
):p:=h
theorem zEq.g {p:Prop} (_:zEq) (h:p:=by
 go_region
 have nX:zF0:=()
 exact s_29
):p:=h
theorem zEc.g {p:Prop} (_:zEc) (h:p:=by
 clear t0 t1 tz0 tz1 x0 x1 HL4 HTU HX4 H84 HO4 HO3 HX3 HL3 H83 HO2 HX2 HL2;have nX:zEq:=()
 exact s_15
):p:=h
def zEe:=Unit
theorem zEe.g {p:Prop} (_:zEe) (h:p:=by
 clear xk0 xk1 xk2 xk3 xk4 xz0 xz1 xz2 xz3 hwD;have HSS:=uZ (fun W (g:aA wD W)=>(⟨uQ g yk1,uQ g yk2,uQ g yb0,uQ g yb1,uQ g yb2,uQ g yb3,uQ g yb4,uQ g yb5,uQ g yb6,uQ g yb7,uQ g yb8,uQ g yb9,uQ g yb10,uQ g yb11,g⟩:W.cell? ⟨KB,1,none⟩=some (.slice A n c)∧W.cell? ⟨KB,2,none⟩=some (.slice B m d)∧W.cell? ⟨w.heap.size,0,none⟩=some (.int .i64 o0)∧W.cell? ⟨w.heap.size,1,none⟩=some (.int .i64 o1)∧W.cell? ⟨w.heap.size,2,none⟩=some (.int .i64 o2)∧W.cell? ⟨w.heap.size,3,none⟩=some (.int .i64 o3)∧W.cell? ⟨w.heap.size,4,none⟩=some (.int .i64 o4)∧W.cell? ⟨w.heap.size,5,none⟩=some (.int .i64 o5)∧W.cell? ⟨w.heap.size,6,none⟩=some (.int .i64 o6)∧W.cell? ⟨w.heap.size,7,none⟩=some (.string o7)∧W.cell? ⟨w.heap.size,8,none⟩=some (.string o8)∧W.cell? ⟨w.heap.size,9,none⟩=some (.int .i64 o9)∧W.cell? ⟨w.heap.size,10,none⟩=some (.int .i64 o10)∧W.cell? ⟨w.heap.size,11,none⟩=some (.int .i64 o11)∧aA wD W));go_cut [12,13] from 45 to 53 (fun s12 s13 wx=>aSr wD (U,n0) s12 s13 wx)
 case first =>
  go_region_held3 (fun W=>W.cell? ⟨KB,1,none⟩=some (.slice A n c)∧W.cell? ⟨KB,2,none⟩=some (.slice B m d)∧W.cell? ⟨w.heap.size,0,none⟩=some (.int .i64 o0)∧W.cell? ⟨w.heap.size,1,none⟩=some (.int .i64 o1)∧W.cell? ⟨w.heap.size,2,none⟩=some (.int .i64 o2)∧W.cell? ⟨w.heap.size,3,none⟩=some (.int .i64 o3)∧W.cell? ⟨w.heap.size,4,none⟩=some (.int .i64 o4)∧W.cell? ⟨w.heap.size,5,none⟩=some (.int .i64 o5)∧W.cell? ⟨w.heap.size,6,none⟩=some (.int .i64 o6)∧W.cell? ⟨w.heap.size,7,none⟩=some (.string o7)∧W.cell? ⟨w.heap.size,8,none⟩=some (.string o8)∧W.cell? ⟨w.heap.size,9,none⟩=some (.int .i64 o9)∧W.cell? ⟨w.heap.size,10,none⟩=some (.int .i64 o10)∧W.cell? ⟨w.heap.size,11,none⟩=some (.int .i64 o11)∧aA wD W) (refine HSS.out _ b_3) (first|(go_at_call 67;with_reducible refine(KA.out _ _ _ (HG3.out.trans b_20) (HVT.out.mono (HG3.out.trans b_20))).mono ?_;rintro e w2 ⟨rv2,bv2,rfl,ht2,gq⟩;have GZ:=uZ (show aA wD w2 from uY b_20 gq);obtain⟨B1,l1,hB1,-⟩:=SlI.open_ (v:=rv2) (l:=U.roots) (aEr ht2);subst hB1;obtain⟨B2,l2,hB2,-⟩:=bQ.open_ (v:=bv2) (l:=U.brs) (oR ht2);subst hB2;have HT2:=uZ ht2;(try (have hdr:aA (wD.alloc (.cells [.slice none 0 0,.slice none 0 0].toArray 43)).drew w2:=b_44;have BX:=uZ (aD (uY (uX _).drew hdr) (aO wD (.cells [.slice none 0 0,.slice none 0 0].toArray 43)))));(try (have hdr:aA (wD.alloc (.cells [.slice none 0 0,.slice none 0 0].toArray 43)) w2:=b_44;have BX:=uZ (aD hdr (aO wD (.cells [.slice none 0 0,.slice none 0 0].toArray 43)))));(try (have q0:w2.cell? ⟨wD.heap.size,0,none⟩=some (.slice none 0 0):=aC BX.out rfl;have q1:w2.cell? ⟨wD.heap.size,1,none⟩=some (.slice none 0 0):=aC BX.out rfl;have z0:w2.frozen? ⟨wD.heap.size,0,none⟩=false:=aS BX.out;have z1:w2.frozen? ⟨wD.heap.size,1,none⟩=false:=aS BX.out));clear ht2 gq))
  all_goals go_wp2_with fail
  all_goals go_meet
  all_goals first|exact aGf GZ.out HT2.out|exact aOf BX.out (Nat.le_refl _) GZ.out HT2.out
 case rest =>
  obtain⟨X,rvU,bvU,rfl,rfl,x0,x1,hTU,hgU⟩:=hcut;generalize hwE:wc=wE at *;obtain⟨RA,ra,rfl,-⟩:=SlI.open_ hTU.1;obtain⟨RB,rb,rfl,-⟩:=bQ.open_ hTU.2;have HO4:=uZ (HO3.out.grew hgU);have HX4:=uZ (aD hgU HX3.out);have HL4:=uZ (HL3.out.mono hgU);have HG4:=uZ (HG3.out.trans hgU);have H84:=uZ (aD hgU H83.out);have HTU:=uZ hTU;clear yk0 yk1 yk2 yk3 yk4 yz0 yz1 yz2 yz3 yb0 yb1 yb2 yb3 yb4 yb5 yb6 yb7 yb8 yb9 yb10 yb11 hgU hTU HSS hwE;by_cases hn:n0=0
  case neg =>
   have hbn:=h_212;have HF:=uZ hn;have HQ:=uZ (HQ0.out.trans (if_pos hn));clear hn;obtain⟨xk0,-⟩:=HO4.out.facts;go_wp2;go_ret2;exact HADM.out _ _ HQ.out HO4.out.g (fun h=>absurd h HF.out)
  case pos =>
   subst hn;have hbn:=h_218;have HQ:=uZ (HQ0.out.trans (if_neg b_52));have nX:zEc:=()
   exact s_11
):p:=h
theorem aPb (l:List Opn) (o:Opn) (w0 w:World) (KB MB:Nat) (hE:Env w) (hK:fG w0 KB MB l (aG l).1 w) (hA:gD l) (hwf:∀ i (h:i<l.length),WfO l[i]) (hwo:WfO o) (hlen:l.length<1000000) (h6:o.kind≠6):Calls Tryz.prog 44 #[.pointer (some ⟨KB,0,none⟩),o.agg] w (tP w0 KB MB l o (bF l (aG l).1 o)):=by
 have hsn:=fun h:(bF l (aG l).1 o).2.2=0=>gD.snoc hA h
 have hft:=aGm hA;have kF:=fun W (hW:aA w W)=>aSt l (aG l).1 o w0 W KB MB (hE.mono hW) (hK.grew hW) hA hwf hwo b_53
 have kA:=fun rv bv W (hW:aA w W) (ht:dF W rv bv (aG l).1)=>aTe (aG l).1 o rv bv W (hE.mono hW) ht.1 ht.2 hft.1 hft.2 hwo.kind
 have kE:=fun(h:gD (l++[o])) lv W (h2:SlO W lv (l++[o]))=>yT (l++[o]) lv W h2 (by rw[List.length_append,List.length_singleton];omega) (pH h)
 have hes:o.kind≠1→aW (l++[o])=aW l:=fun h=>by rw[gY,if_neg h]
 unfold bU at kA;unfold aWw at kE;have kM:=fun W=>aJi o W
 have KCL:=uZ (fun v W (h:SlO W v l)=>vR l v W h b_53);have hbm:=aFm hK;obtain⟨E,k,A,n,c,B,m,d,C,q,hO,hV⟩:=hK.open_;obtain⟨i0,hi,hz0,hz1,hz2⟩:=info_parts aAt;have hsz12:(0:Nat)<12:=by omega
 have HNC:=uZ hlen;have hAT:=aSf (l:=l) (t:=(aG l).1) h6;have hgen:=h_12
 have hlt:MB<w.heap.size:=by
  obtain⟨n2,D,h2,-⟩:=hV.o;exact h2.lt
 have hkl:KB<w.heap.size:=(Array.getElem?_eq_some_iff.1 hO.cell).1;generalize bF l (aG l).1 o=RES at hAT hgen hsn ⊢;generalize eX l o=FK at kF hAT;generalize aT (aG l).1 o=AR at kA hAT;obtain⟨U,n0⟩:=AR;generalize (aG l).1=T0 at hV hAT kA;have hmk:=fun h:cJ o=false=>@oY l
 clear hmk;obtain⟨no,D,hom,hnl,hon⟩:=hV.o;have hvl:=hV.l;have hvt:=hV.t;have hvc:=hV.c;have HPUT:=uZ (fun h:cJ o=true=>aFa hon hom.isMap h);have HSKIP:=uZ (fun h:cJ o=false=>oY hon h);have HKEY:=uZ (bBq o.mark hwo.mark);have HWU:=uZ hwo.unit;generalize cJ o=M0 at kM HPUT HSKIP;obtain⟨o0,o1,o2,o3,o4,o5,o6,o7,o8,o9,o10,o11⟩:=o;unfold Opn.agg at kF kM kA ⊢;dsimp only at kF kM hAT HPUT HSKIP HKEY HWU h6 kA kE hes ⊢;have HADM:=uZ hgen;have HSN:=uZ hsn;have HATT:=uZ hAT;have KF:=uZ kF;have KM:=uZ kM;have HO:=uZ hO;have HES:=uZ hes;have HVL:=uZ hvl;have HVT:=uZ hvt;have HVC:=uZ hvc;have HOM:=uZ hom;have HON:=uZ hon;have HNL:=uZ hnl;have HBM:=uZ hbm;have HLT:=uZ hlt;have HKL:=uZ hkl;have KA:=uZ kA;have KE:=uZ kE;have HBX:=h_6;have HG0:=h_26;have hk6:(o2 == 6)=false:=by simpa using h6
 have H6:=uZ h6;clear hgen hsn hAT kF kM hO hes hvl hvt hvc hom hon hnl hbm hlt hkl hlen hE hK hA hwf hwo hft hV h6 kA kE;go_enter Tryz.func44,Tryz.ntmps44;go_wp2_with fail;refine(KF.out _ HG0.out).mono ?_;rintro e w1 ⟨rfl,g1⟩;have HG1:=h_229;have HO1:=uZ (HO.out.grew HG1.out);have HX1:=uZ (HBX.out _ g1);clear g1;dsimp only;by_cases hf:FK=0
 case neg =>
  exact c_70
 case pos =>
  subst hf;have hb:=h_218;have HQ0:=uZ (HATT.out.trans (if_neg b_52));obtain⟨xk0,xk1,xk2,xk3,xk4,xz0,xz1,xz2,xz3⟩:=HO1.out.facts;obtain⟨xb0,xb1,xb2,xb3,xb4,xb5,xb6,xb7,xb8,xb9,xb10,xb11⟩:=vS HX1.out;have HSS:=h_1;go_wp2_with fail;go_cut [7] from 20 to 27 (fun s7 wx=>aOr w1 l ⟨o0,o1,o2,o3,o4,o5,o6,o7,o8,o9,o10,o11⟩ s7 wx)
  case first =>
   exact c_9
  case rest =>
   have nX:zEe:=()
   exact s_12
def zEd:=Unit
def zEr:=Unit
def zF1:=Unit
theorem zF1.g {p:Prop} (_:zF1) (h:p:=by
 have hk1:(o2 == 1)=false:=by have:=H6.out;subst this;rfl
 have hlen2:=uZ HES.out;have HC8e:=h_55;have HNL2:=h_75;have HLS1:=h_37;have HLS:=h_40;obtain⟨nb0,nb1,nb2,nb3,nb4,nb5,nb6,nb7,nb8,nb9,nb10,nb11⟩:=vS HX8.out;go_wp2_with fail;clear nb0 nb1 nb2 nb3 nb4 nb5 nb6 nb7 nb8 nb9 nb10 nb11;exact c_40
):p:=h
theorem zEr.g {p:Prop} (_:zEr) (h:p:=by
 go_region
 have nX:zF1:=()
 exact s_29
):p:=h
theorem zEd.g {p:Prop} (_:zEd) (h:p:=by
 clear hwE t0 t1 tz0 tz1 x0 x1 HL4 HTU HX4 H84 HO4 HO3 HX3 HL3 H83 HO2 HX2 HL2;have nX:zEr:=()
 exact s_15
):p:=h
def zEf:=Unit
theorem zEf.g {p:Prop} (_:zEf) (h:p:=by
 refine(KR.out _ _ HG3.out HL3.out).mono ?_;rintro e w2 ⟨rvU,bvU,rfl,htU,gq⟩;obtain⟨RA,ra,hRA,-⟩:=SlI.open_ (v:=rvU) (l:=U.roots) (aEr htU);subst hRA;obtain⟨RB,rb,hRB,-⟩:=bQ.open_ (v:=bvU) (l:=U.brs) (oR htU);subst hRB;have hgU:aA wD (w2.alloc (.cells #[(.slice RA U.roots.length ra),(.slice RB U.brs.length rb)] 43)):=gq.alloc _;have HO4:=uZ (HO3.out.grew hgU);have HX4:=uZ (aD hgU HX3.out);have HL4:=uZ (HL3.out.mono hgU);have HG4:=uZ (HG3.out.trans hgU);have H84:=uZ (aD hgU H83.out);have HTU:=uZ (htU.mono ((uX w2).alloc (.cells #[(.slice RA U.roots.length ra),(.slice RB U.brs.length rb)] 43)));have HXX:=uZ (aO w2 (.cells #[(.slice RA U.roots.length ra),(.slice RB U.brs.length rb)] 43));clear yk0 yk1 yk2 yk3 yk4 yz0 yz1 yz2 yz3 yb0 yb1 yb2 yb3 yb4 yb5 yb6 yb7 yb8 yb9 yb10 yb11 hgU htU gq hwD;dsimp only;obtain⟨xk0,-⟩:=HO4.out.facts;have x0:(w2.alloc (.cells #[(.slice RA U.roots.length ra),(.slice RB U.brs.length rb)] 43)).cell? ⟨w2.heap.size,0,none⟩=some (.slice RA U.roots.length ra):=aC HXX.out rfl;have x1:(w2.alloc (.cells #[(.slice RA U.roots.length ra),(.slice RB U.brs.length rb)] 43)).cell? ⟨w2.heap.size,1,none⟩=some (.slice RB U.brs.length rb):=aC HXX.out rfl;obtain⟨wE,hwE⟩:∃ wE,w2.alloc (.cells #[(.slice RA U.roots.length ra),(.slice RB U.brs.length rb)] 43)=wE:=⟨_,rfl⟩
 rw[hwE] at HO4 HX4 HL4 HG4 H84 HTU x0 x1 xk0;clear HXX;by_cases hn:n0=0
 case neg =>
  have hbn:=h_212;have HF:=uZ hn;have HQ:=uZ (HQ0.out.trans (if_pos hn));clear hn;go_wp2;go_ret2;exact HADM.out _ _ HQ.out HO4.out.g (fun h=>(by cases h))
 case pos =>
   subst hn;have hbn:=h_218;have HQ:=uZ (HQ0.out.trans (if_neg b_52));clear xk0;have nX:zEd:=()
   exact s_11
):p:=h
theorem aGr (l:List Opn) (o:Opn) (w0 w:World) (KB MB:Nat) (hE:Env w) (hK:fG w0 KB MB l (aG l).1 w) (hA:gD l) (hwf:∀ i (h:i<l.length),WfO l[i]) (hwo:WfO o) (hlen:l.length<1000000) (h6:o.kind=6):Calls Tryz.prog 44 #[.pointer (some ⟨KB,0,none⟩),o.agg] w (tP w0 KB MB l o (bF l (aG l).1 o)):=by
 have hsn:=fun h:(bF l (aG l).1 o).2.2=0=>gD.snoc hA h
 have hft:=aGm hA;have kF:=fun W (hW:aA w W)=>aSt l (aG l).1 o w0 W KB MB (hE.mono hW) (hK.grew hW) hA hwf hwo b_53
 have kR:=fun lv W (hW:aA w W) (h2:SlO W lv (l++[o]))=>aJh (l++[o]) (fun i hi=>by
   rw[List.getElem_append];split
   ·exact hwf _ _
   ·simpa using hwo) lv W (hE.mono hW) h2 (by rw[List.length_append,List.length_singleton];omega)
 have hes:aW (l++[o])=aW l:=by rw[gY,if_neg (by rw[h6];decide)]
 have hm0:cJ o=false:=by unfold cJ;rw[h6];rfl
 unfold rH at kR;have kM:=fun W=>aJi o W
 have KCL:=uZ (fun v W (h:SlO W v l)=>vR l v W h b_53);have hbm:=aFm hK;obtain⟨E,k,A,n,c,B,m,d,C,q,hO,hV⟩:=hK.open_;obtain⟨i0,hi,hz0,hz1,hz2⟩:=info_parts aAt;have hsz12:(0:Nat)<12:=by omega
 have HNC:=uZ hlen;have hAT:=aIt (l:=l) (t:=(aG l).1) h6;have hgen:=h_12
 have hlt:MB<w.heap.size:=by
  obtain⟨n2,D,h2,-⟩:=hV.o;exact h2.lt
 have hkl:KB<w.heap.size:=(Array.getElem?_eq_some_iff.1 hO.cell).1;generalize bF l (aG l).1 o=RES at hAT hgen hsn ⊢;generalize eX l o=FK at kF hAT;generalize aG (l++[o])=RR at kR hAT;obtain⟨U,ri,n0⟩:=RR;generalize (aG l).1=T0 at hV hAT;have hmk:=fun h:cJ o=false=>@oY l
 clear hmk;obtain⟨no,D,hom,hnl,hon⟩:=hV.o;have hvl:=hV.l;have hvt:=hV.t;have hvc:=hV.c;have HPUT:=uZ (fun h:cJ o=true=>aFa hon hom.isMap h);have HSKIP:=uZ (fun h:cJ o=false=>oY hon h);have HKEY:=uZ (bBq o.mark hwo.mark);have HWU:=uZ hwo.unit;generalize cJ o=M0 at kM HPUT HSKIP hm0;obtain⟨o0,o1,o2,o3,o4,o5,o6,o7,o8,o9,o10,o11⟩:=o;unfold Opn.agg at kF kM ⊢;dsimp only at kF kM hAT HPUT HSKIP HKEY HWU h6 kR ⊢;have HADM:=uZ hgen;have HSN:=uZ hsn;have HATT:=uZ hAT;have KF:=uZ kF;have KM:=uZ kM;have HO:=uZ hO;have HES:=uZ hes;have HVL:=uZ hvl;have HVT:=uZ hvt;have HVC:=uZ hvc;have HOM:=uZ hom;have HON:=uZ hon;have HNL:=uZ hnl;have HBM:=uZ hbm;have HLT:=uZ hlt;have HKL:=uZ hkl;have KR:=uZ kR;have HBX:=h_6;have HG0:=h_26;have hk6:(o2 == 6)=true:=by simpa using h6
 have H6:=uZ h6;clear hgen hsn hAT kF kM hO hes hvl hvt hvc hom hon hnl hbm hlt hkl hlen hE hK hA hwf hwo hft hV h6 kR;subst hm0;go_enter Tryz.func44,Tryz.ntmps44;go_wp2_with fail;refine(KF.out _ HG0.out).mono ?_;rintro e w1 ⟨rfl,g1⟩;have HG1:=h_229;have HO1:=uZ (HO.out.grew HG1.out);have HX1:=uZ (HBX.out _ g1);clear g1;dsimp only;by_cases hf:FK=0
 case neg =>
  exact c_70
 case pos =>
  subst hf;have hb:=h_218;have HQ0:=uZ (HATT.out.trans (if_neg b_52));obtain⟨xk0,xk1,xk2,xk3,xk4,xz0,xz1,xz2,xz3⟩:=HO1.out.facts;obtain⟨xb0,xb1,xb2,xb3,xb4,xb5,xb6,xb7,xb8,xb9,xb10,xb11⟩:=vS HX1.out;have HSS:=h_1;go_wp2_with fail;go_cut [7] from 20 to 27 (fun s7 wx=>aOr w1 l ⟨o0,o1,o2,o3,o4,o5,o6,o7,o8,o9,o10,o11⟩ s7 wx)
  case first =>
   exact c_9
  case rest =>
   have nX:zEf:=()
   exact s_12
theorem aSu (l:List Opn) (o:Opn) (w0 w:World) (KB MB:Nat) (hE:Env w) (hK:fG w0 KB MB l (aG l).1 w) (hA:gD l) (hwf:∀ i (h:i<l.length),WfO l[i]) (hwo:WfO o) (hlen:l.length<1000000):Calls Tryz.prog 44 #[.pointer (some ⟨KB,0,none⟩),o.agg] w (tP w0 KB MB l o (bF l (aG l).1 o)):=by
 by_cases h6:o.kind=6
 ·exact aGr l o w0 w KB MB hE hK hA hwf hwo hlen h6
 ·exact aPb l o w0 w KB MB hE hK hA hwf hwo hlen h6
def aSk (l:List Opn) (w:World) (R:Tr × Int × Int) (e:Ending) (w':World):Prop:=∃ p,e=.returned (.tuple #[p,.int .i64 R.2.1,.int .i64 R.2.2])∧aA w w'∧(R.2.2=0→gD l∧∃ KB MB,p=.pointer (some ⟨KB,0,none⟩)∧fG w KB MB l (aG l).1 w')
theorem aRb (w:World):fG w (w.heap.size+1) w.heap.size [] (aG []).1 ((w.alloc (.map #[] 0)).alloc (.cells #[.slice none 0 0,.slice none 0 0,.slice none 0 0,.slice none 0 0,.map (some w.heap.size)] 81)) where
 g:=((uX w).alloc _).alloc _
 kb:=by omega
 mb:=Nat.le_refl _
 cell:=⟨none,0,0,none,0,0,none,0,0,none,0,(by have:=aO (w.alloc (.map #[] 0)) (.cells #[.slice none 0 0,.slice none 0 0,.slice none 0 0,.slice none 0 0,.map (some w.heap.size)] 81);rw[World.size_alloc] at this;exact this),rfl,SlO.nil _,iG _,SlC.nil _⟩
 owns:=⟨0,_,(World.ownsMap_made _ _ _ _).alloc _,Nat.le_refl _,aQf⟩
theorem aHt (l:List Opn) (k:Nat) (h:k<l.length) (t:Tr):gB (l.take k) (l.drop k) t=if (bF (l.take k) t l[k]).2.2=0 then gB (l.take (k+1)) (l.drop (k+1)) (bF (l.take k) t l[k]).1 else(⟨[],[]⟩,(k:Int),(bF (l.take k) t l[k]).2.2):=by
 rw[List.drop_eq_getElem_cons h,gB,← List.take_succ_eq_append_getElem h,List.length_take,Nat.min_eq_left b_53]
theorem aMg (l:List Opn) (t:Tr):gB (l.take l.length) (l.drop l.length) t=(t,-1,0):=by
 rw[List.drop_length,gB]
theorem aPa (l:List Opn) (hwf:∀ i (h:i<l.length),WfO l[i]) (lv:Value) (w:World) (hE:Env w) (hv:SlO w lv l) (hlen:l.length≤1000000):Calls Tryz.prog 42 #[lv] w (aSk l w (cS l)):=by
 obtain⟨A,c,rfl,hl,hr⟩:=hv.open_
 have HA:=uZ (fun k (h:k<l.length) o (he:l[k]=o) t (ht:(aG (l.take k)).1=t) KB MB W (hK:fG w KB MB (l.take k) t W) (hA:gD (l.take k))=>by
  have:=aSu (l.take k) o w W KB MB (hE.mono hK.g) (by rw[ht];exact hK) hA (fun i hi=>by rw[List.getElem_take];exact hwf _ _) (by rw[← he];exact hwf _ _) b_41;unfold tP at this;rw[ht] at this
  exact this)
 have HN:=uZ hlen;have HR:=uZ hr;have HT:=uZ (fun k (h:k<l.length)=>List.take_succ_eq_append_getElem h);have HS:=uZ (aHt l);have HF:=uZ (show cS l=gB (l.take 0) (l.drop 0) (aG (l.take 0)).1 from rfl);have HZ:=uZ (aMg l);have HKN:=uZ (aRb w);generalize cS l=RES at HF ⊢;clear hE hwf hlen hr hv;go_enter Tryz.func42,Tryz.ntmps42;go_wp2_with fail;rw[run_makeMap];go_wp2_with fail;go_loopg [15] l.length (fun gg s15 wr=>∃ kk:Nat,kk≤l.length∧l.length-kk≤gg∧s15=.int .i64 kk∧Aside (∃ t,(aG (l.take kk)).1=t∧gD (l.take kk)∧fG w (w.heap.size+1) w.heap.size (l.take kk) t wr∧RES=gB (l.take kk) (l.drop kk) t))
 case atStart=>exact⟨0,by omega,by omega,rfl,(show Aside _ from⟨_,rfl,.nil,HKN.out,HF.out⟩)⟩
 case round =>
  have hN:=HN.out;obtain⟨kk,hkk,hgk,rfl,OW⟩:=hrel;obtain⟨t,htt,hadm,hkp,hres⟩:=OW.out;have HT1:=uZ htt;have HD:=uZ hadm;have HK:=uZ hkp;have HRS:=uZ hres;clear OW htt hadm hkp hres HKN HF;by_cases hlt:kk<l.length
  case pos =>
   have hltz:=h_201;obtain⟨b,off,rfl,hbb,hcell⟩:=HR.out.2 b_53;obtain⟨c0,c1,c2,c3,c4,c5,c6,c7,c8,c9,c10,c11⟩:=hcell wr HK.out.g kk hlt;have KA:=uZ (fun o he=>HA.out kk hlt o he t HT1.out (w.heap.size+1) w.heap.size);have HST:=uZ (HRS.out.trans (HS.out kk hlt t))
   have HNX:=uZ (fun(h:(bF (l.take kk) t l[kk]).2.2=0)=>(show gD (l.take (kk+1))∧(aG (l.take (kk+1))).1=(bF (l.take kk) t l[kk]).1 from by
    have h1:=HT1.out;have h2:=HD.out;subst h1;rw[HT.out kk hlt]
    exact⟨.snoc h2 h,(yI h2 h).symm⟩))
   have HTT:=uZ (HT.out kk hlt);generalize hy:l[kk]=y at c0 c1 c2 c3 c4 c5 c6 c7 c8 c9 c10 c11 HST HNX HTT;have KB:=uZ (KA.out y hy);clear hcell KA hy;generalize bF (l.take kk) t y=AR at KB HST HNX;obtain⟨t2,ix,n0⟩:=AR;obtain⟨y0,y1,y2,y3,y4,y5,y6,y7,y8,y9,y10,y11⟩:=y;dsimp only at KB HST HNX c0 c1 c2 c3 c4 c5 c6 c7 c8 c9 c10 c11;unfold Opn.agg at KB;dsimp only at KB;have HG0:=uZ (HK.out.g);go_wp2_with fail;clear c0 c1 c2 c3 c4 c5 c6 c7 c8 c9 c10 c11;refine(KB.out _ (HK.out.grew ((uX wr).alloc _)) HD.out).mono ?_;rintro e w2 ⟨rfl,gq,hk2⟩;have HG2:=uZ gq;have HK2:=uZ hk2;clear gq hk2;dsimp only;by_cases hn:n0=0
   case neg =>
    have hbn:=h_212;have HQ:=uZ (HST.out.trans (if_neg hn));have HF:=uZ hn;clear hn;go_wp2;refine bodyPost_ret (v:=.tuple #[.pointer none,.int .i64 kk,.int .i64 n0]) (by simp[results,Tryz.results42,go_sem]) rfl ?_;rw[HQ.out];exact⟨_,rfl,HG2.out,fun h=>absurd h HF.out⟩
   case pos =>
    subst hn;have hbn:=h_218;have HLP:=uZ (show Aside (∃ t,(aG (l.take (kk+1))).1=t∧gD (l.take (kk+1))∧fG w (w.heap.size+1) w.heap.size (l.take (kk+1)) t w2∧RES=gB (l.take (kk+1)) (l.drop (kk+1)) t) from⟨t2,(HNX.out rfl).2,(HNX.out rfl).1,by rw[HTT.out];exact HK2.out rfl,HST.out.trans (if_pos rfl)⟩);clear HST HNX HK2 HTT;go_wp2;go_roundg (l.length-(kk+1))
    case measure=>omega
    case rel=>exact⟨kk+1,by omega,by omega,by go_num,HLP.out⟩
  case neg =>
   have hltz:=h_197;obtain rfl:kk=l.length:=by omega
   have HQ:=uZ (HRS.out.trans (HZ.out t));have hres:=HQ.out;subst hres;go_wp2;refine bodyPost_ret (v:=.tuple #[.pointer (some ⟨w.heap.size+1,0,none⟩),.int .i64 (-1),.int .i64 0]) (by simp[results,Tryz.results42,go_sem]) rfl ?_;have h1:=HT1.out;have h2:=HD.out;have h3:=HK.out;rw[List.take_length] at h1 h2 h3;exact⟨_,rfl,h3.g,fun _=>⟨h2,_,_,rfl,by rw[h1];exact h3⟩⟩
theorem h_180 {p:Prop} (h:p:=by
 exact uZ (aO w (.cells #[.slice none 0 0,.slice none 0 0] 43))
):p:=h
theorem tA {l:List Opn} (h:(cS l).2.2=0):gD l∧cS l=((aG l).1,-1,0):=by
 have:=(xM l [] .nil).1 h
 rwa [List.nil_append] at this
def aOo (R:Int × Int) (w:World) (e:Ending) (w':World):Prop:=e=.returned (.tuple #[.int .i64 R.1,.int .i64 R.2])∧aA w w'
theorem yU (l:List Opn) (hwf:∀ i (h:i<l.length),WfO l[i]) (lv:Value) (w:World) (hE:Env w) (hv:SlO w lv l) (hlen:l.length≤1000000):Calls Tryz.prog 14 #[lv] w (aOo (cS l).2 w):=by
 have K:=aPa l hwf lv w hE hv hlen;obtain⟨A,c,rfl,-⟩:=hv.open_;generalize cS l=R at K ⊢;clear hwf hE hv hlen;go_enter Tryz.func14,Tryz.ntmps14;go_wp2_with fail;refine K.mono ?_;rintro e w2 ⟨p,rfl,g,-⟩;dsimp only;go_wp2;go_ret2;exact⟨rfl,g⟩
noncomputable def xV (l:List Opn):List Cm × Int:=if (cS l).2.2=0 then(aW l,0) else([],1)
def aBj (R:List Cm × Int) (w:World) (e:Ending) (w':World):Prop:=∃ v,e=.returned (.tuple #[v,.int .i64 R.2])∧SlC w' v R.1∧aA w w'
theorem uH (l:List Opn) (hwf:∀ i (h:i<l.length),WfO l[i]) (lv:Value) (w:World) (hE:Env w) (hv:SlO w lv l) (hlen:l.length≤1000000):Calls Tryz.prog 28 #[lv] w (aBj (xV l) w):=by
 have K:=yU l hwf lv w hE hv hlen;have KE:=uZ (fun W (g:aA w W) (h:(cS l).2.2=0)=>yT l lv W (hv.mono g) hlen (pH (tA h).1));obtain⟨A,c,rfl,-⟩:=hv.open_;unfold aOo at K;unfold aWw at KE;have HR0:xV l=if (cS l).2.2=0 then(aW l,0) else([],1):=rfl
 generalize xV l=RES at HR0 ⊢;generalize aW l=EV at KE HR0;generalize (cS l).2=R at K KE HR0;obtain⟨i,n0⟩:=R;dsimp only at K KE HR0;have HQ0:=uZ HR0;clear HR0 hwf hE hv hlen;go_enter Tryz.func28,Tryz.ntmps28;go_wp2_with fail;refine K.mono ?_;rintro e w2 ⟨rfl,g⟩;dsimp only;by_cases hn:n0=0
 case neg =>
  have hbn:=h_212;obtain rfl:=HQ0.out.trans (if_neg hn);clear HQ0 hn;go_wp2;go_ret2;exact⟨_,rfl,SlC.nil _,g⟩
 case pos =>
  subst hn;have hbn:=h_218;obtain rfl:=HQ0.out.trans (if_pos rfl);clear HQ0;go_wp2_with fail;refine(KE.out _ g (by trivial)).mono ?_;rintro e w3 ⟨B,d,rfl,ho,g2⟩;dsimp only;have HO:=uZ (Rd.of_own ho);clear ho;go_wp2;go_ret2;exact⟨_,rfl,HO.out,g.trans g2⟩
noncomputable def sF (l:List Opn):Tr × Int:=if (cS l).2.2=0 then((aG l).1,0) else(⟨[],[]⟩,1)
theorem aUd (l:List Opn) (hwf:∀ i (h:i<l.length),WfO l[i]) (lv:Value) (w:World) (hE:Env w) (hv:SlO w lv l) (hlen:l.length≤1000000):Calls Tryz.prog 22 #[lv] w (bU (sF l) w):=by
 have K:=aPa l hwf lv (w.alloc (.cells #[.slice none 0 0,.slice none 0 0] 43)) (hE.mono ((uX w).alloc _)) (hv.mono ((uX w).alloc _)) hlen;obtain⟨A,c,rfl,-⟩:=hv.open_;have HB:=h_180;unfold aSk at K;have HR0:sF l=if (cS l).2.2=0 then((aG l).1,0) else(⟨[],[]⟩,1):=rfl
 generalize sF l=RES at HR0 ⊢;generalize cS l=R at K HR0;obtain⟨t0,i,n0⟩:=R;dsimp only at K HR0;have HQ0:=uZ HR0;clear HR0 hwf hE hv hlen;go_enter Tryz.func22,Tryz.ntmps22;go_wp2_with fail;refine K.mono ?_;rintro e w2 ⟨p,rfl,g,hk⟩;have HB2:=uZ (aD g HB.out);have HG:=uZ (show aA w w2 from uY ((uX w).alloc _) g);dsimp only;by_cases hn:n0=0
 case neg =>
  have hbn:=h_212;obtain rfl:=HQ0.out.trans (if_neg hn);clear HQ0 hn hk g;have c0:w2.cell? ⟨w.heap.size,0,none⟩=some (.slice none 0 0):=aC HB2.out rfl;have c1:w2.cell? ⟨w.heap.size,1,none⟩=some (.slice none 0 0):=aC HB2.out rfl;have z0:w2.frozen? ⟨w.heap.size,0,none⟩=false:=aS HB2.out;have z1:w2.frozen? ⟨w.heap.size,1,none⟩=false:=aS HB2.out;go_wp2;obtain⟨q0,q1⟩:=aK (v0:=(.slice none 0 0)) (v1:=(.slice none 0 0)) c0 c1;refine bodyPost_ret (v:=.tuple #[.agg #[.slice none 0 0,.slice none 0 0],.int .i64 1]) (by simp[results,Tryz.results22,go_sem,q0,q1]) rfl ?_;exact bU.none ((HG.out.setCell (Nat.le_refl _) _).setCell (Nat.le_refl _) _)
 case pos =>
  subst hn;have hbn:=h_218;obtain rfl:=HQ0.out.trans (if_pos rfl);clear HQ0;obtain⟨hA,KB,MB,rfl,hK⟩:=hk rfl;clear hk hA;obtain⟨E,k,A2,n,c2,B,m,d,C,q,hO,hV⟩:=hK.open_;have HV:=uZ hV.t;have hne:KB≠w.heap.size:=by have:=hO.kb;simp at this;omega
  obtain⟨xk0,xk1,xk2,-⟩:=hO.facts;clear hO hV hK g;have c0:w2.cell? ⟨w.heap.size,0,none⟩=some (.slice none 0 0):=aC HB2.out rfl;have c1:w2.cell? ⟨w.heap.size,1,none⟩=some (.slice none 0 0):=aC HB2.out rfl;have z0:w2.frozen? ⟨w.heap.size,0,none⟩=false:=aS HB2.out;have z1:w2.frozen? ⟨w.heap.size,1,none⟩=false:=aS HB2.out;go_wp2;obtain⟨q0,q1⟩:=aK (v0:=(.slice A2 n c2)) (v1:=(.slice B m d)) c0 c1;refine bodyPost_ret (v:=.tuple #[.agg #[.slice A2 n c2,.slice B m d],.int .i64 0]) (by simp[results,Tryz.results22,go_sem,q0,q1]) rfl ?_;exact⟨_,_,rfl,HV.out.setT HB2.out,(HG.out.setCell (Nat.le_refl _) _).setCell (Nat.le_refl _) _⟩
theorem h_32 {p:Prop} (h:p:=by
 exact uZ (aO w (.cells #[.int .i64 o0,.int .i64 o1,.int .i64 o2,.int .i64 o3,.int .i64 o4,.int .i64 o5,.int .i64 o6,.string o7,.string o8,.int .i64 o9,.int .i64 o10,.int .i64 o11] 26))
):p:=h
noncomputable def yJ (l:List Opn) (o:Opn):List Opn × Int × Int:=if (cS l).2.2=0 then(if (bF l (aG l).1 o).2.2=0 then(l++[o],-1,0) else([],(bF l (aG l).1 o).2.1,(bF l (aG l).1 o).2.2)) else([],-1,1)
def aSm (R:List Opn × Int × Int) (w:World) (e:Ending) (w':World):Prop:=∃ v,e=.returned (.tuple #[v,.int .i64 R.2.1,.int .i64 R.2.2])∧SlO w' v R.1∧aA w w'
theorem nY (l:List Opn) (o:Opn) (hwf:∀ i (h:i<l.length),WfO l[i]) (hwo:WfO o) (lv:Value) (w:World) (hE:Env w) (hv:SlO w lv l) (hlen:l.length<1000000):Calls Tryz.prog 17 #[lv,o.agg] w (aSm (yJ l o) w):=by
 have K:=uZ (fun W (g:aA w W)=>aPa l hwf lv W (hE.mono g) (hv.mono g) b_53);have HA:=uZ (fun w0 W KB MB (g:aA w W) (h:gD l) (hK:fG w0 KB MB l (aG l).1 W)=>aSu l o w0 W KB MB (hE.mono g) hK h hwf hwo hlen);obtain⟨A,c,rfl,-⟩:=hv.open_;have HR0:yJ l o=if (cS l).2.2=0 then(if (bF l (aG l).1 o).2.2=0 then(l++[o],-1,0) else([],(bF l (aG l).1 o).2.1,(bF l (aG l).1 o).2.2)) else([],-1,1):=rfl
 unfold tP at HA;unfold aSk at K;generalize yJ l o=RES at HR0 ⊢;generalize bF l (aG l).1 o=AR at HA HR0;generalize cS l=R at K HR0;obtain⟨t0,i,n0⟩:=R;obtain⟨t2,ix,n2⟩:=AR;dsimp only at K HA HR0;obtain⟨o0,o1,o2,o3,o4,o5,o6,o7,o8,o9,o10,o11⟩:=o;unfold Opn.agg at HA ⊢;dsimp only at HA ⊢;have HQ0:=uZ HR0;have HB:=h_32;clear HR0 hwf hwo hE hv hlen;go_enter Tryz.func17,Tryz.ntmps17;go_wp2_with fail;refine(K.out _ ((uX w).alloc _)).mono ?_;rintro e w2 ⟨p,rfl,g,hk⟩;have HB2:=uZ (aD g HB.out);have HG:=uZ (show aA w w2 from uY ((uX w).alloc _) g);dsimp only;by_cases hn:n0=0
 case neg =>
  have hbn:=h_212;obtain rfl:=HQ0.out.trans (if_neg hn);clear HQ0 hn hk g;go_wp2;refine bodyPost_ret (v:=.tuple #[.slice none 0 0,.int .i64 (-1),.int .i64 1]) (by simp[results,Tryz.results17,go_sem]) rfl ?_;exact⟨_,rfl,SlO.nil _,HG.out⟩
 case pos =>
  subst hn;have hbn:=h_218;have HQ1:=uZ (HQ0.out.trans (if_pos rfl));obtain⟨hA,KB,MB,rfl,hK⟩:=hk rfl;have HK:=uZ hK;have HL:=uZ hA;clear hk hA HQ0 g hK;obtain⟨b0,b1,b2,b3,b4,b5,b6,b7,b8,b9,b10,b11⟩:=vS HB2.out;go_wp2_with fail;clear b0 b1 b2 b3 b4 b5 b6 b7 b8 b9 b10 b11;refine(HA.out _ _ KB MB HG.out HL.out HK.out).mono ?_;rintro e w3 ⟨rfl,g3,hk3⟩;have HG3:=uZ (show aA w w3 from uY ((uX w).alloc _) g3);have HK3:=uZ hk3;clear hk3 g3;dsimp only;by_cases hn2:n2=0
  case neg =>
   have hbn2:(n2 != 0)=true:=by simpa using hn2
   obtain rfl:=HQ1.out.trans (if_neg hn2);clear HQ1 hn2;go_wp2;refine bodyPost_ret (v:=.tuple #[.slice none 0 0,.int .i64 ix,.int .i64 n2]) (by simp[results,Tryz.results17,go_sem]) rfl ?_;exact⟨_,rfl,SlO.nil _,HG3.out⟩
  case pos =>
   subst hn2;obtain rfl:=HQ1.out.trans (if_pos rfl);clear HQ1;obtain⟨E,k,A2,n,c2,B,m,d,C,q,hO,hV⟩:=(HK3.out (by trivial)).open_;obtain⟨xk0,-⟩:=hO.facts;have HV:=uZ hV.l;clear hO hV;go_wp2;refine bodyPost_ret (v:=.tuple #[.slice E (l++[(⟨o0,o1,o2,o3,o4,o5,o6,o7,o8,o9,o10,o11⟩:Opn)]).length k,.int .i64 (-1),.int .i64 0]) (by simp[results,Tryz.results17,go_sem]) rfl ?_;exact⟨_,rfl,HV.out,HG3.out⟩
end Go.Proofs.YtdochkemaiokfaaGreat




namespace Go.Proofs.YtdochkemaiokfaaGreat
open Go.RowKit
theorem aVp {l:List Opn} (h:gD l):cS l=((aG l).1,-1,0):=by
 refine(tA ?_).2;have:=(xM l [] .nil).2;rw[List.nil_append] at this;exact this h
theorem aQl (w:World) (x0 x1 x2:Int) (x3 x4:ByteArray):(binOp .neq 64 (.agg #[.int .i64 x0,.int .i64 x1,.int .i64 x2,.string x3,.string x4]) (.agg #[.int .i64 x0,.int .i64 x1,.int .i64 x2,.string x3,.string x4])).run Tryz.prog w=.ok (.bool false) w:=by
 have hS:Tryz.prog.underlying 64=some (.struct (Tryz.prog.fieldsOf 64)):=by kernel_rfl
 have hp:Tryz.prog.stoodInHeld 64=false:=by kernel_rfl
 rw[run_neq_struct,show(10000:Nat)=9999+1 from rfl,run_equalIn_agg w 9999 64 _ _ hS hp];simp only [Program.fieldsOf,Tryz.underlying64];go_simp
def zIh:=Unit
theorem zIh.g {p:Prop} (_:zIh) (h:p:=by
 have hne:=h_173;clear hr hr' hv hu;go_enter Tryz.func51,Tryz.ntmps51;go_wp2;go_loopg [5] l.length (fun gg s5 wr=>∃ k:Nat,k≤l.length∧l.length-k≤gg∧s5=.int .i64 k∧Aside (aA w wr))
 case atStart=>exact⟨0,by omega,by omega,rfl,(show Aside _ from uX _)⟩
 case round =>
  obtain⟨k,hk,hgk,rfl,BW⟩:=hrel;by_cases hlt:k<l.length
  ·have hltz:(k:Int)<(l.length:Int):=by omega
   have h0z:=h_216;obtain⟨b,off,rfl,hb,hcell⟩:=HR.out b_53;obtain⟨b',off',rfl,hb',hcell'⟩:=HR'.out b_53;have c0:=hcell wr BW.out k hlt;have d0:=hcell' wr BW.out k hlt;generalize l[k]=y at c0 d0;clear hcell hcell';go_wp2;go_quiet (fail);clear c0 d0;go_wp2;go_roundg (l.length-(k+1))
   case measure=>omega
   case rel=>exact⟨k+1,by omega,by omega,by go_num,(show Aside _ from BW.out.drewN _)⟩
  ·have hltz:¬ (k:Int)<(l.length:Int):=by omega
   go_wp2;go_ret;exact⟨rfl,BW.out⟩
):p:=h
theorem aJy (l:List Int) (v u:Value) (w:World) (hv:SlI w v l) (hu:SlI w u l):Calls Tryz.prog 51 #[v,u] w fun e w'=>e=.returned (.bool true)∧aA w w':=by
 have nX:zIh:=()
 exact s_57
theorem aJx (w:World) (o:Obj):(w.alloc o).heap.size=w.heap.size+1:=by simp
theorem aTb (t:Tr) (ra ba rb bb:Value) (w:World) (ha:dF w ra ba t) (hb:dF w rb bb t):Calls Tryz.prog 27 #[.agg #[ra,ba],.agg #[rb,bb]] w fun e w'=>e=.returned (.bool true)∧aA w w':=by
 have kS:=fun W (hW:aA w W)=>aJy t.roots ra rb W (ha.1.mono hW) (hb.1.mono hW)
 obtain⟨Aa,ca,rfl,hal,hac,har⟩:=ha.2.open_;obtain⟨Ab,cb,rfl,hbl,hbc,hbr⟩:=hb.2.open_;unfold maxLen at hac hbc;have HA:=uZ har;have HB:=uZ hbr;have KS:=uZ kS;have hne:((t.brs.length:Int) != (t.brs.length:Int))=false:=by simp
 have HX:=uZ (fun W (g:aA ((w.alloc (.cells [ra,.slice Aa t.brs.length ca].toArray 43)).alloc (.cells [rb,.slice Ab t.brs.length cb].toArray 43)) W)=>(show W.cell? ⟨w.heap.size,1,none⟩=some (.slice Aa t.brs.length ca)∧W.cell? ⟨w.heap.size+1,1,none⟩=some (.slice Ab t.brs.length cb) from⟨yQ (w:=w) (((uX _).alloc _).trans g) 1 _ rfl,by
  have:=yQ g 1 _ rfl;rw[aJx] at this
  exact this⟩))
 clear har hbr kS ha hb;go_enter Tryz.func27,Tryz.ntmps27;go_wp2_with fail;refine(KS.out _ (((uX w).alloc _).alloc _)).mono ?_;rintro e w1 ⟨rfl,g1⟩;obtain⟨x1,y1⟩:=HX.out w1 g1;have HG1:=uZ ((((uX w).alloc _).alloc _).trans g1);have HXG:=uZ (fun W (g:aA w1 W)=>HX.out W (g1.trans g));clear g1 HX;dsimp only;go_wp2;clear x1 y1;go_loopg [5] t.brs.length (fun gg s5 wr=>∃ k:Nat,k≤t.brs.length∧t.brs.length-k≤gg∧s5=.int .i64 k∧Aside (aA w1 wr))
 case atStart=>exact⟨0,by omega,by omega,rfl,(show Aside _ from uX _)⟩
 case round =>
  obtain⟨k,hk,hgk,rfl,BW⟩:=hrel;obtain⟨x1,y1⟩:=HXG.out wr BW.out;by_cases hlt:k<t.brs.length
  ·have hltz:(k:Int)<(t.brs.length:Int):=by omega
   have h0z:=h_216;obtain⟨b,off,rfl,hb,hcell⟩:=HA.out b_53;obtain⟨b',off',rfl,hb',hcell'⟩:=HB.out b_53;obtain⟨ka,hka,hca⟩:=hcell k hlt;obtain⟨kb,hkb,hcb⟩:=hcell' k hlt;have KK:=uZ (fun W (hW:aA w W)=>aJy t.brs[k].kids ka kb W (hka.mono hW) (hkb.mono hW));obtain⟨c0,c1,c2,c3,c4,c5⟩:=hca wr (HG1.out.trans BW.out);obtain⟨d0,d1,d2,d3,d4,d5⟩:=hcb wr (HG1.out.trans BW.out);generalize t.brs[k]=y at c0 c1 c2 c3 c4 c5 d0 d1 d2 d3 d4 d5 KK;obtain⟨yi,yp,yl,yt,ym,yk⟩:=y;dsimp only at c0 c1 c2 c3 c4 c5 d0 d1 d2 d3 d4 d5 KK;have kN:=fun w=>aQl w yi yp yl yt ym
   have GW:=uZ (HG1.out.trans BW.out);clear hcell hcell' hka hkb hca hcb;go_wp2;have f1:=Gr.cell x1;have g1:=Gr.cell y1;have fc0:=Gr.cell c0;have fc1:=Gr.cell c1;have fc2:=Gr.cell c2;have fc3:=Gr.cell c3;have fc4:=Gr.cell c4;have fc5:=Gr.cell c5;have fd0:=Gr.cell d0;have fd1:=Gr.cell d1;have fd2:=Gr.cell d2;have fd3:=Gr.cell d3;have fd4:=Gr.cell d4;have fd5:=Gr.cell d5;clear x1 y1 c0 c1 c2 c3 c4 c5 d0 d1 d2 d3 d4 d5;refine dD wr (by kernel_rfl) (by kernel_rfl) (uX _) ?_
   repeat (first|go_big_quiet_step ((exact Gr.calls _ (KK.out _ (GW.out.trans (Gr.g _)))))|quiet_step ((exact Gr.calls _ (KK.out _ (GW.out.trans (Gr.g _))))))
   refine wpQuiet_nil ?_;intro _ hw';obtain⟨wi,rfl⟩:=hw';have HWI:=uZ (BW.out.trans wi.g);clear f1 g1 fc0 fc1 fc2 fc3 fc4 fc5 fd0 fd1 fd2 fd3 fd4 fd5;go_wp2;go_roundg (t.brs.length-(k+1))
   case measure=>omega
   case rel=>exact⟨k+1,by omega,by omega,by go_num,(show Aside _ from HWI.out)⟩
  ·have hltz:¬ (k:Int)<(t.brs.length:Int):=by omega
   go_wp2;go_ret;exact⟨rfl,HG1.out.trans BW.out⟩
theorem wO (n lo hi:Int) (w:World):Calls Tryz.prog 118 #[.int .i64 n,.int .i64 lo,.int .i64 hi] w fun e w'=>e=.returned (.bool (aN n lo hi))∧w=w':=by
 unfold aN;cases a1:decide (lo≤n)<;>cases a2:decide (n≤hi)
 all_goals
  go_enter Tryz.func118,Tryz.ntmps118;exact c_130
theorem uR (f a n:Int) (w:World):Calls Tryz.prog 83 #[.agg #[.int .i64 f,.int .i64 a,.int .i64 n]] w fun e w'=>e=.returned (.bool (iU f a n))∧aA w w':=by
 have k1:=fun W=>wO f 0 1073741824 W
 have k2:=fun W=>wO a 1 1073741824 W
 have k3:=fun W=>wO n 1 9999 W
 unfold iU;generalize aN f 0 1073741824=b1 at k1;generalize aN a 1 1073741824=b2 at k2;generalize aN n 1 9999=b3 at k3;have K1:=uZ k1;have K2:=uZ k2;have K3:=uZ k3;clear k1 k2 k3;cases b1<;>cases b2<;>cases b3<;>cases a4:(a == 0)<;>cases a5:(n == 0)
 all_goals
  go_enter Tryz.func83,Tryz.ntmps83;go_wp2_with (first|(go_at_call 118;(first|(with_reducible refine(K1.out _).mono ?_;rintro e w1 ⟨rfl,rfl⟩)|(with_reducible refine(K2.out _).mono ?_;rintro e w1 ⟨rfl,rfl⟩)|(with_reducible refine(K3.out _).mono ?_;rintro e w1 ⟨rfl,rfl⟩))))
  go_ret;exact⟨rfl,(uX w).alloc _⟩
end Go.Proofs.YtdochkemaiokfaaGreat

