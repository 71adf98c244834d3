/- Lemmas on what the functions of the program and of the library compute: Fm2. The conditions stand at each. -/
import Derived.Test.YtdochkemaiokfaaGreatQ13
import Derived.Test.YtdochkemaiokfaaGreatQ10
set_option maxHeartbeats 16000000
set_option maxRecDepth 100000
set_option linter.all false
namespace Go.Proofs.YtdochkemaiokfaaGreat
open Go.RowKit
theorem f_6 {p:Prop} (h:p:=by
 go_ret;exact⟨aV (by rw[← HR.out];first|rfl|(simp;done)|simp[Bool.and_assoc]),by repeat (first|exact G4.out|exact G3.out|exact G2.out|exact uX w|refine uU ?_ _|refine uJ ?_|refine yZ ?_ b_54 _)⟩
):p:=h
theorem e_3 {p:Prop} (h:p:=by
 go_enter Tryz.func97,Tryz.ntmps97;go_wp2_with (first|(go_at_call 139;(first|(with_reducible refine(K1.out _).mono ?_;rintro e w1 ⟨rfl,rfl⟩)|(with_reducible refine(K2.out _).mono ?_;rintro e w1 ⟨rfl,rfl⟩)|(with_reducible refine(K3.out _).mono ?_;rintro e w1 ⟨rfl,rfl⟩)|(with_reducible refine(K4.out _).mono ?_;rintro e w1 ⟨rfl,rfl⟩)|(with_reducible refine(K5.out _).mono ?_;rintro e w1 ⟨rfl,rfl⟩)|(with_reducible refine(K6.out _).mono ?_;rintro e w1 ⟨rfl,rfl⟩)))|(go_at_call 140;refine(K7.out _ b_25).mono ?_;rintro e w2 ⟨rfl,g2⟩;have G2:=uZ (show aA w w2 from uY b_25 g2);have HB2:=uZ (show aA (w.alloc (.cells ([.int .i64 i,.int .i64 d,.int .i64 3,.int .i64 u,.int .i64 p,.int .i64 b,.int .i64 l,.string t,.string m,.int .i64 x9,.int .i64 x10,.int .i64 x11].toArray) 26)) w2 from uY b_26 g2);obtain⟨a02,a12,a22,a32,a42,a52,a62,a72,a82,a92,a102,a112⟩:=aU (w:=w) (t:=26) (⟨i,d,3,u,p,b,l,t,m,x9,x10,x11⟩:Opn) HB2.out;have HR2:=uZ (show aA ((w.alloc (.cells ([.int .i64 i,.int .i64 d,.int .i64 3,.int .i64 u,.int .i64 p,.int .i64 b,.int .i64 l,.string t,.string m,.int .i64 x9,.int .i64 x10,.int .i64 x11].toArray) 26)).alloc (.cells ([.int .i64 i,.int .i64 d,.int .i64 3,.int .i64 u,.int .i64 0,.int .i64 0,.int .i64 0,.string t,.string ⟨#[]⟩,.int .i64 0,.int .i64 0,.int .i64 0].toArray) 26)) w2 from uY b_37 g2);obtain⟨r02,r12,r22,r32,r42,r52,r62,r72,r82,r92,r102,r112⟩:=aU (w:=(w.alloc (.cells ([.int .i64 i,.int .i64 d,.int .i64 3,.int .i64 u,.int .i64 p,.int .i64 b,.int .i64 l,.string t,.string m,.int .i64 x9,.int .i64 x10,.int .i64 x11].toArray) 26))) (t:=26) (⟨i,d,3,u,0,0,0,t,⟨#[]⟩,0,0,0⟩:Opn) HR2.out;dsimp only at a02 a12 a22 a32 a42 a52 a62 a72 a82 a92 a102 a112 r02 r12 r22 r32 r42 r52 r62 r72 r82 r92 r102 r112;rw[show(w.alloc (.cells ([.int .i64 i,.int .i64 d,.int .i64 3,.int .i64 u,.int .i64 p,.int .i64 b,.int .i64 l,.string t,.string m,.int .i64 x9,.int .i64 x10,.int .i64 x11].toArray) 26)).heap.size=w.heap.size+1 from bC w _] at r02 r12 r22 r32 r42 r52 r62 r72 r82 r92 r102 r112; clear g2)|(go_at_call 141;refine(K8.out _).mono ?_;rintro e w3 ⟨rfl,g3⟩;have G3:=uZ (show aA w w3 from uY b_18 g3);have HB3:=uZ (show aA (w.alloc (.cells ([.int .i64 i,.int .i64 d,.int .i64 3,.int .i64 u,.int .i64 p,.int .i64 b,.int .i64 l,.string t,.string m,.int .i64 x9,.int .i64 x10,.int .i64 x11].toArray) 26)) w3 from uY b_16 g3);obtain⟨a03,a13,a23,a33,a43,a53,a63,a73,a83,a93,a103,a113⟩:=aU (w:=w) (t:=26) (⟨i,d,3,u,p,b,l,t,m,x9,x10,x11⟩:Opn) HB3.out;have HR3:=uZ (show aA ((w.alloc (.cells ([.int .i64 i,.int .i64 d,.int .i64 3,.int .i64 u,.int .i64 p,.int .i64 b,.int .i64 l,.string t,.string m,.int .i64 x9,.int .i64 x10,.int .i64 x11].toArray) 26)).alloc (.cells ([.int .i64 i,.int .i64 d,.int .i64 3,.int .i64 u,.int .i64 0,.int .i64 0,.int .i64 0,.string t,.string ⟨#[]⟩,.int .i64 0,.int .i64 0,.int .i64 0].toArray) 26)) w3 from uY b_37 g3);obtain⟨r03,r13,r23,r33,r43,r53,r63,r73,r83,r93,r103,r113⟩:=aU (w:=(w.alloc (.cells ([.int .i64 i,.int .i64 d,.int .i64 3,.int .i64 u,.int .i64 p,.int .i64 b,.int .i64 l,.string t,.string m,.int .i64 x9,.int .i64 x10,.int .i64 x11].toArray) 26))) (t:=26) (⟨i,d,3,u,0,0,0,t,⟨#[]⟩,0,0,0⟩:Opn) HR3.out;dsimp only at a03 a13 a23 a33 a43 a53 a63 a73 a83 a93 a103 a113 r03 r13 r23 r33 r43 r53 r63 r73 r83 r93 r103 r113;rw[show(w.alloc (.cells ([.int .i64 i,.int .i64 d,.int .i64 3,.int .i64 u,.int .i64 p,.int .i64 b,.int .i64 l,.string t,.string m,.int .i64 x9,.int .i64 x10,.int .i64 x11].toArray) 26)).heap.size=w.heap.size+1 from bC w _] at r03 r13 r23 r33 r43 r53 r63 r73 r83 r93 r103 r113; clear g3)|(go_at_call 142;refine(K9.out _).mono ?_;rintro e w4 ⟨rfl,g4⟩;have G4:=uZ (show aA w w4 from uY b_19 g4);clear g4))
 exact f_6
):p:=h
theorem c_4 {p:Prop} (h:p:=by
 cases b7 with
 | false =>
  exact e_3
 | true =>
  exact e_3
):p:=h
theorem e_4 {p:Prop} (h:p:=by
 go_enter Tryz.func97,Tryz.ntmps97;go_wp2_with (first|(go_at_call 139;(first|(with_reducible refine(K1.out _).mono ?_;rintro e w1 ⟨rfl,rfl⟩)|(with_reducible refine(K2.out _).mono ?_;rintro e w1 ⟨rfl,rfl⟩)|(with_reducible refine(K3.out _).mono ?_;rintro e w1 ⟨rfl,rfl⟩)|(with_reducible refine(K4.out _).mono ?_;rintro e w1 ⟨rfl,rfl⟩)|(with_reducible refine(K5.out _).mono ?_;rintro e w1 ⟨rfl,rfl⟩)|(with_reducible refine(K6.out _).mono ?_;rintro e w1 ⟨rfl,rfl⟩)))|(go_at_call 140;refine(K7.out _ b_25).mono ?_;rintro e w2 ⟨rfl,g2⟩;have G2:=uZ (show aA w w2 from uY b_25 g2);have HB2:=uZ (show aA (w.alloc (.cells ([.int .i64 i,.int .i64 d,.int .i64 4,.int .i64 u,.int .i64 p,.int .i64 b,.int .i64 l,.string t,.string m,.int .i64 x9,.int .i64 x10,.int .i64 x11].toArray) 26)) w2 from uY b_26 g2);obtain⟨a02,a12,a22,a32,a42,a52,a62,a72,a82,a92,a102,a112⟩:=aU (w:=w) (t:=26) (⟨i,d,4,u,p,b,l,t,m,x9,x10,x11⟩:Opn) HB2.out;have HR2:=uZ (show aA ((w.alloc (.cells ([.int .i64 i,.int .i64 d,.int .i64 4,.int .i64 u,.int .i64 p,.int .i64 b,.int .i64 l,.string t,.string m,.int .i64 x9,.int .i64 x10,.int .i64 x11].toArray) 26)).alloc (.cells ([.int .i64 i,.int .i64 d,.int .i64 4,.int .i64 u,.int .i64 0,.int .i64 0,.int .i64 0,.string ⟨#[]⟩,.string m,.int .i64 0,.int .i64 0,.int .i64 0].toArray) 26)) w2 from uY b_37 g2);obtain⟨r02,r12,r22,r32,r42,r52,r62,r72,r82,r92,r102,r112⟩:=aU (w:=(w.alloc (.cells ([.int .i64 i,.int .i64 d,.int .i64 4,.int .i64 u,.int .i64 p,.int .i64 b,.int .i64 l,.string t,.string m,.int .i64 x9,.int .i64 x10,.int .i64 x11].toArray) 26))) (t:=26) (⟨i,d,4,u,0,0,0,⟨#[]⟩,m,0,0,0⟩:Opn) HR2.out;dsimp only at a02 a12 a22 a32 a42 a52 a62 a72 a82 a92 a102 a112 r02 r12 r22 r32 r42 r52 r62 r72 r82 r92 r102 r112;rw[show(w.alloc (.cells ([.int .i64 i,.int .i64 d,.int .i64 4,.int .i64 u,.int .i64 p,.int .i64 b,.int .i64 l,.string t,.string m,.int .i64 x9,.int .i64 x10,.int .i64 x11].toArray) 26)).heap.size=w.heap.size+1 from bC w _] at r02 r12 r22 r32 r42 r52 r62 r72 r82 r92 r102 r112; clear g2)|(go_at_call 141;refine(K8.out _).mono ?_;rintro e w3 ⟨rfl,g3⟩;have G3:=uZ (show aA w w3 from uY b_18 g3);have HB3:=uZ (show aA (w.alloc (.cells ([.int .i64 i,.int .i64 d,.int .i64 4,.int .i64 u,.int .i64 p,.int .i64 b,.int .i64 l,.string t,.string m,.int .i64 x9,.int .i64 x10,.int .i64 x11].toArray) 26)) w3 from uY b_16 g3);obtain⟨a03,a13,a23,a33,a43,a53,a63,a73,a83,a93,a103,a113⟩:=aU (w:=w) (t:=26) (⟨i,d,4,u,p,b,l,t,m,x9,x10,x11⟩:Opn) HB3.out;have HR3:=uZ (show aA ((w.alloc (.cells ([.int .i64 i,.int .i64 d,.int .i64 4,.int .i64 u,.int .i64 p,.int .i64 b,.int .i64 l,.string t,.string m,.int .i64 x9,.int .i64 x10,.int .i64 x11].toArray) 26)).alloc (.cells ([.int .i64 i,.int .i64 d,.int .i64 4,.int .i64 u,.int .i64 0,.int .i64 0,.int .i64 0,.string ⟨#[]⟩,.string m,.int .i64 0,.int .i64 0,.int .i64 0].toArray) 26)) w3 from uY b_37 g3);obtain⟨r03,r13,r23,r33,r43,r53,r63,r73,r83,r93,r103,r113⟩:=aU (w:=(w.alloc (.cells ([.int .i64 i,.int .i64 d,.int .i64 4,.int .i64 u,.int .i64 p,.int .i64 b,.int .i64 l,.string t,.string m,.int .i64 x9,.int .i64 x10,.int .i64 x11].toArray) 26))) (t:=26) (⟨i,d,4,u,0,0,0,⟨#[]⟩,m,0,0,0⟩:Opn) HR3.out;dsimp only at a03 a13 a23 a33 a43 a53 a63 a73 a83 a93 a103 a113 r03 r13 r23 r33 r43 r53 r63 r73 r83 r93 r103 r113;rw[show(w.alloc (.cells ([.int .i64 i,.int .i64 d,.int .i64 4,.int .i64 u,.int .i64 p,.int .i64 b,.int .i64 l,.string t,.string m,.int .i64 x9,.int .i64 x10,.int .i64 x11].toArray) 26)).heap.size=w.heap.size+1 from bC w _] at r03 r13 r23 r33 r43 r53 r63 r73 r83 r93 r103 r113; clear g3)|(go_at_call 142;refine(K9.out _).mono ?_;rintro e w4 ⟨rfl,g4⟩;have G4:=uZ (show aA w w4 from uY b_19 g4);clear g4))
 exact f_6
):p:=h
theorem c_5 {p:Prop} (h:p:=by
 cases b8 with
 | false =>
  exact e_4
 | true =>
  exact e_4
):p:=h
theorem e_11 {p:Prop} (h:p:=by
 exact f_6
):p:=h
theorem c_19 {p:Prop} (h:p:=by
 go_enter Tryz.func97,Tryz.ntmps97;go_wp2_with (first|(go_at_call 139;(first|(with_reducible refine(K1.out _).mono ?_;rintro e w1 ⟨rfl,rfl⟩)|(with_reducible refine(K2.out _).mono ?_;rintro e w1 ⟨rfl,rfl⟩)|(with_reducible refine(K3.out _).mono ?_;rintro e w1 ⟨rfl,rfl⟩)|(with_reducible refine(K4.out _).mono ?_;rintro e w1 ⟨rfl,rfl⟩)|(with_reducible refine(K5.out _).mono ?_;rintro e w1 ⟨rfl,rfl⟩)|(with_reducible refine(K6.out _).mono ?_;rintro e w1 ⟨rfl,rfl⟩)))|(go_at_call 140;refine(K7.out _ b_25).mono ?_;rintro e w2 ⟨rfl,g2⟩;have G2:=uZ (show aA w w2 from uY b_25 g2);have HB2:=uZ (show aA (w.alloc (.cells ([.int .i64 i,.int .i64 d,.int .i64 1,.int .i64 u,.int .i64 p,.int .i64 b,.int .i64 l,.string t,.string m,.int .i64 x9,.int .i64 x10,.int .i64 x11].toArray) 26)) w2 from uY b_26 g2);obtain⟨a02,a12,a22,a32,a42,a52,a62,a72,a82,a92,a102,a112⟩:=aU (w:=w) (t:=26) (⟨i,d,1,u,p,b,l,t,m,x9,x10,x11⟩:Opn) HB2.out;dsimp only at a02 a12 a22 a32 a42 a52 a62 a72 a82 a92 a102 a112; clear g2)|(go_at_call 141;refine(K8.out _).mono ?_;rintro e w3 ⟨rfl,g3⟩;have G3:=uZ (show aA w w3 from uY b_18 g3);have HB3:=uZ (show aA (w.alloc (.cells ([.int .i64 i,.int .i64 d,.int .i64 1,.int .i64 u,.int .i64 p,.int .i64 b,.int .i64 l,.string t,.string m,.int .i64 x9,.int .i64 x10,.int .i64 x11].toArray) 26)) w3 from uY b_16 g3);obtain⟨a03,a13,a23,a33,a43,a53,a63,a73,a83,a93,a103,a113⟩:=aU (w:=w) (t:=26) (⟨i,d,1,u,p,b,l,t,m,x9,x10,x11⟩:Opn) HB3.out;dsimp only at a03 a13 a23 a33 a43 a53 a63 a73 a83 a93 a103 a113; clear g3)|(go_at_call 142;refine(K9.out _).mono ?_;rintro e w4 ⟨rfl,g4⟩;have G4:=uZ (show aA w w4 from uY b_19 g4);clear g4))
 exact e_11
):p:=h
theorem e_8 {p:Prop} (h:p:=by
 go_enter Tryz.func97,Tryz.ntmps97;go_wp2_with (first|(go_at_call 139;(first|(with_reducible refine(K1.out _).mono ?_;rintro e w1 ⟨rfl,rfl⟩)|(with_reducible refine(K2.out _).mono ?_;rintro e w1 ⟨rfl,rfl⟩)|(with_reducible refine(K3.out _).mono ?_;rintro e w1 ⟨rfl,rfl⟩)|(with_reducible refine(K4.out _).mono ?_;rintro e w1 ⟨rfl,rfl⟩)|(with_reducible refine(K5.out _).mono ?_;rintro e w1 ⟨rfl,rfl⟩)|(with_reducible refine(K6.out _).mono ?_;rintro e w1 ⟨rfl,rfl⟩))))
 exact f_6
):p:=h
theorem c_21 {p:Prop} (h:p:=by
 cases b4 with
 | false =>
  exact e_8
 | true =>
  cases b5 with
  | false =>
   exact e_8
  | true =>
   exact e_8
):p:=h
theorem c_33 {p:Prop} (h:p:=by
 go_enter Tryz.func97,Tryz.ntmps97;go_wp2_with (first|(go_at_call 139;(first|(with_reducible refine(K1.out _).mono ?_;rintro e w1 ⟨rfl,rfl⟩)|(with_reducible refine(K2.out _).mono ?_;rintro e w1 ⟨rfl,rfl⟩)|(with_reducible refine(K3.out _).mono ?_;rintro e w1 ⟨rfl,rfl⟩)|(with_reducible refine(K4.out _).mono ?_;rintro e w1 ⟨rfl,rfl⟩)|(with_reducible refine(K5.out _).mono ?_;rintro e w1 ⟨rfl,rfl⟩)|(with_reducible refine(K6.out _).mono ?_;rintro e w1 ⟨rfl,rfl⟩))))
 go_region
 all_goals go_wp2
 all_goals go_ret
 all_goals exact⟨aV (by rw[← HR.out];first|rfl|(simp;done)|simp[Bool.and_assoc]),by repeat (first|exact G4.out|exact G3.out|exact G2.out|exact uX w|refine uU ?_ _|refine uJ ?_|refine yZ ?_ b_54 _)⟩
):p:=h
theorem c_36 {p:Prop} (h:p:=by
 go_enter Tryz.func97,Tryz.ntmps97;go_wp2_with (first|(go_at_call 139;(first|(with_reducible refine(K1.out _).mono ?_;rintro e w1 ⟨rfl,rfl⟩)|(with_reducible refine(K2.out _).mono ?_;rintro e w1 ⟨rfl,rfl⟩)|(with_reducible refine(K3.out _).mono ?_;rintro e w1 ⟨rfl,rfl⟩)|(with_reducible refine(K4.out _).mono ?_;rintro e w1 ⟨rfl,rfl⟩)|(with_reducible refine(K5.out _).mono ?_;rintro e w1 ⟨rfl,rfl⟩)|(with_reducible refine(K6.out _).mono ?_;rintro e w1 ⟨rfl,rfl⟩))))
 go_ret;exact⟨aV (by rw[← HR.out];first|rfl|simp[hk1,hk2,hk3,hk4,hk5,hk6]),by repeat (first|exact G4.out|exact G3.out|exact G2.out|exact uX w|refine uU ?_ _|refine uJ ?_|refine yZ ?_ b_54 _)⟩
):p:=h
theorem c_61 {p:Prop} (h:p:=by
 exact e_11
):p:=h
theorem aNc (s:ByteArray):cK s=(s.toList == (⟨#[]⟩:ByteArray).toList):=by
 have:(⟨#[]⟩:ByteArray).toList=[]:=by rw[ByteArray.toList_eq]
 rw[this];unfold cK;cases s.toList<;>rfl
theorem bC (w:World) (o:Obj):(w.alloc o).heap.size=w.heap.size+1:=by simp
theorem aU {w W:World} {t:TypeId} (o:Opn) (h:aA (w.alloc (.cells o.cells.toArray t)) W) :
  W.cell? ⟨w.heap.size,0,none⟩=some (.int .i64 o.id)∧W.cell? ⟨w.heap.size,1,none⟩=some (.int .i64 o.day)∧W.cell? ⟨w.heap.size,2,none⟩=some (.int .i64 o.kind)∧W.cell? ⟨w.heap.size,3,none⟩=some (.int .i64 o.unit)∧W.cell? ⟨w.heap.size,4,none⟩=some (.int .i64 o.parent)∧W.cell? ⟨w.heap.size,5,none⟩=some (.int .i64 o.before)∧W.cell? ⟨w.heap.size,6,none⟩=some (.int .i64 o.level)∧W.cell? ⟨w.heap.size,7,none⟩=some (.string o.title)∧W.cell? ⟨w.heap.size,8,none⟩=some (.string o.mark)∧W.cell? ⟨w.heap.size,9,none⟩=some (.int .i64 o.office)∧W.cell? ⟨w.heap.size,10,none⟩=some (.int .i64 o.acc)∧W.cell? ⟨w.heap.size,11,none⟩=some (.int .i64 o.num) :=
 ⟨yQ h 0 _ rfl,yQ h 1 _ rfl,yQ h 2 _ rfl,yQ h 3 _ rfl,yQ h 4 _ rfl,yQ h 5 _ rfl,yQ h 6 _ rfl,yQ h 7 _ rfl,yQ h 8 _ rfl,yQ h 9 _ rfl,yQ h 10 _ rfl,yQ h 11 _ rfl⟩
theorem aMz (o:Opn) (w:World) (hE:Env w):Calls Tryz.prog 97 #[o.agg] w fun e w'=>e=.returned (.bool (aP o))∧aA w w':=by
 obtain⟨i,d,k,u,p,b,l,t,m,x9,x10,x11⟩:=o;have k1:=fun W=>kZ i 1 1073741824 W
 have k2:=fun W=>kZ d 0 1048575 W
 have k3:=fun W=>kZ u 1 1073741824 W
 have k4:=fun W=>kZ p 0 1073741824 W
 have k5:=fun W=>kZ b 0 1073741824 W
 have k6:=fun W=>kZ l 1 4 W
 have k7:=fun W (hW:aA w W)=>bCv t W (hE.mono hW)
 have k8:=fun W=>bCw m W
 have k9:=fun W=>aWh x9 x10 x11 W
 unfold aP pB sS iE eP Opn.agg;simp only [aNc];generalize aN i 1 1073741824=b1 at k1 ⊢;generalize aN d 0 1048575=b2 at k2 ⊢;generalize aN u 1 1073741824=b3 at k3 ⊢;generalize aN p 0 1073741824=b4 at k4 ⊢;generalize aN b 0 1073741824=b5 at k5 ⊢;generalize aN l 1 4=b6 at k6 ⊢;generalize fB t.data.toList=b7 at k7 ⊢;generalize tY m.data.toList=b8 at k8 ⊢;generalize iU x9 x10 x11=b9 at k9 ⊢;have K1:=uZ k1;have K2:=uZ k2;have K3:=uZ k3;have K4:=uZ k4;have K5:=uZ k5;have K6:=uZ k6;have K7:=uZ k7;have K8:=uZ k8;have K9:=uZ k9;clear k1 k2 k3 k4 k5 k6 k7 k8 k9 hE;generalize hR:(b1 && _)=R;have HR:=uZ hR;clear hR
 cases b1 with
 | false =>
  go_enter Tryz.func97,Tryz.ntmps97;go_wp2_with (first|(go_at_call 139;(first|(with_reducible refine(K1.out _).mono ?_;rintro e w1 ⟨rfl,rfl⟩))))
  exact c_61
 | true =>
 cases b2 with
 | false =>
  go_enter Tryz.func97,Tryz.ntmps97;go_wp2_with (first|(go_at_call 139;(first|(with_reducible refine(K1.out _).mono ?_;rintro e w1 ⟨rfl,rfl⟩)|(with_reducible refine(K2.out _).mono ?_;rintro e w1 ⟨rfl,rfl⟩))))
  exact c_61
 | true =>
 cases b3 with
 | false =>
  go_enter Tryz.func97,Tryz.ntmps97;go_wp2_with (first|(go_at_call 139;(first|(with_reducible refine(K1.out _).mono ?_;rintro e w1 ⟨rfl,rfl⟩)|(with_reducible refine(K2.out _).mono ?_;rintro e w1 ⟨rfl,rfl⟩)|(with_reducible refine(K3.out _).mono ?_;rintro e w1 ⟨rfl,rfl⟩))))
  exact c_61
 | true =>
 by_cases hk1:k=1
 ·subst hk1
  cases b4 with
  | false =>
   exact c_19
  | true =>
   cases b5 with
   | false =>
    exact c_19
   | true =>
    cases b6 with
    | false =>
     exact c_19
    | true =>
     cases b7 with
     | false =>
      exact c_19
     | true =>
      cases b8 with
      | false =>
       exact c_19
      | true =>
       exact c_19
 by_cases hk2:k=2
 ·subst hk2
  cases b4 with
  | false =>
   exact c_33
  | true =>
   cases b5 with
   | false =>
    exact c_33
   | true =>
    exact c_33
 by_cases hk3:k=3
 ·subst hk3
  cases b4 with
  | false =>
   exact c_4
  | true =>
   cases b5 with
   | false =>
    exact c_4
   | true =>
    exact c_4
 by_cases hk4:k=4
 ·subst hk4
  cases b4 with
  | false =>
   exact c_5
  | true =>
   cases b5 with
   | false =>
    exact c_5
   | true =>
    exact c_5
 by_cases hk5:k=5
 ·subst hk5
  exact c_21
 by_cases hk6:k=6
 ·subst hk6
  exact c_21
 have e1:(k == 1)=false:=by simpa using hk1
 have e2:(k == 2)=false:=by simpa using hk2
 have e3:(k == 3)=false:=by simpa using hk3
 have e4:(k == 4)=false:=by simpa using hk4
 have e5:(k == 5)=false:=by simpa using hk5
 have e6:(k == 6)=false:=by simpa using hk6
 cases b4 with
 | false =>
  exact c_36
 | true =>
  cases b5 with
  | false =>
   exact c_36
  | true =>
   exact c_36
theorem aRq (o:Opn) (w:World) (hE:Env w):Calls Tryz.prog 88 #[o.agg] w fun e w'=>e=.returned (.int .i64 (if aP o=true then 0 else 1))∧aA w w':=by
 have kf:=fun W (hW:aA w W)=>aMz o W (hE.mono hW)
 generalize aP o=b at kf;have K:=uZ kf;clear kf hE;unfold Opn.agg at K ⊢;cases b
 all_goals
  go_enter Tryz.func88,Tryz.ntmps88;go_wp2_with ((go_at_call 97;refine(K.out _ ((uX w).alloc _)).mono ?_;rintro e w1 ⟨rfl,g1⟩;have G1:=uZ (((uX w).alloc _).trans g1);clear g1))
  go_ret;exact⟨rfl,G1.out⟩
end Go.Proofs.YtdochkemaiokfaaGreat