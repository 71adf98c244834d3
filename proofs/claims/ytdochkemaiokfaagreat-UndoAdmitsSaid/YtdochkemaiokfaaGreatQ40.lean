/- Lemmas on what the functions of the program and of the library compute: Fo3. The conditions stand at each. -/
import Derived.Test.YtdochkemaiokfaaGreatQ33
import Derived.Test.YtdochkemaiokfaaGreatQ36
import Derived.Test.YtdochkemaiokfaaGreatQ8
import Derived.Test.YtdochkemaiokfaaGreatQ39
import Derived.Test.YtdochkemaiokfaaGreatQ10
import Derived.Test.YtdochkemaiokfaaGreatQ28
set_option maxHeartbeats 16000000
set_option maxRecDepth 100000
set_option linter.all false
namespace Go.Proofs.YtdochkemaiokfaaGreat
open Go.RowKit
theorem e_6 {p:Prop} (h:p:=by
 go_enter Tryz.func64,Tryz.ntmps64;go_wp2_with (first|(go_at_call 79;(first|(with_reducible refine(K1.out _).mono ?_;rintro e w1 ⟨rfl,rfl⟩)|(with_reducible refine(K2.out _).mono ?_;rintro e w1 ⟨rfl,rfl⟩)|(with_reducible refine(K3.out _).mono ?_;rintro e w1 ⟨rfl,rfl⟩)|(with_reducible refine(K4.out _).mono ?_;rintro e w1 ⟨rfl,rfl⟩)|(with_reducible refine(K5.out _).mono ?_;rintro e w1 ⟨rfl,rfl⟩)))|(go_at_call 80;refine(K6.out _).mono ?_;rintro e w1 ⟨rfl,rfl⟩)|(go_at_call 81;refine(K7.out _).mono ?_;rintro e w2 ⟨rfl,g2⟩;have GB2:=uZ (show aA ((w.alloc (.cells [.int .i64 i,.int .i64 d,.int .i64 1,.int .i64 u,.int .i64 p,.int .i64 b,.int .i64 l,.string tt,.string m,.int .i64 x9,.int .i64 x10,.int .i64 x11].toArray 26)).alloc (.cells [.int .i64 0,.int .i64 0,.int .i64 0,.int .i64 0,.int .i64 p,.int .i64 b,.int .i64 l,.string tt,.string m,.int .i64 x9,.int .i64 x10,.int .i64 x11].toArray 26)) w2 from uY (by first|exact uX _) g2);obtain⟨⟨_,_,_,_,_,_,_,_,a8_2,a9_2,a10_2,a11_2⟩,⟨_,_,_,_,_,_,_,_,_,_,_,_⟩,zz2⟩:=HB.out w2 GB2.out;clear zz2;clear g2)|(go_at_call 82;refine(K8.out _).mono ?_;rintro e w3 ⟨rfl,g3⟩;have GB3:=uZ (show aA ((w.alloc (.cells [.int .i64 i,.int .i64 d,.int .i64 1,.int .i64 u,.int .i64 p,.int .i64 b,.int .i64 l,.string tt,.string m,.int .i64 x9,.int .i64 x10,.int .i64 x11].toArray 26)).alloc (.cells [.int .i64 0,.int .i64 0,.int .i64 0,.int .i64 0,.int .i64 p,.int .i64 b,.int .i64 l,.string tt,.string m,.int .i64 x9,.int .i64 x10,.int .i64 x11].toArray 26)) w3 from uY (by first|exact GB2.out|exact uX _) g3);obtain⟨⟨_,_,_,_,_,_,_,_,_,a9_3,a10_3,a11_3⟩,⟨_,_,_,_,_,_,_,_,_,_,_,_⟩,zz3⟩:=HB.out w3 GB3.out;clear zz3;clear g3)|(go_at_call 83;refine(K9.out _).mono ?_;rintro e w4 ⟨rfl,g4⟩;have GB4:=uZ (show aA ((w.alloc (.cells [.int .i64 i,.int .i64 d,.int .i64 1,.int .i64 u,.int .i64 p,.int .i64 b,.int .i64 l,.string tt,.string m,.int .i64 x9,.int .i64 x10,.int .i64 x11].toArray 26)).alloc (.cells [.int .i64 0,.int .i64 0,.int .i64 0,.int .i64 0,.int .i64 p,.int .i64 b,.int .i64 l,.string tt,.string m,.int .i64 x9,.int .i64 x10,.int .i64 x11].toArray 26)) w4 from uY b_30 g4);obtain⟨⟨_,_,_,_,_,_,_,_,_,_,_,_⟩,⟨r0_4,r1_4,r2_4,r3_4,r4_4,r5_4,r6_4,r7_4,r8_4,r9_4,r10_4,r11_4⟩,zz4⟩:=HB.out w4 GB4.out;have z0_4:=zz4 0;have z1_4:=zz4 1;have z2_4:=zz4 2;have z3_4:=zz4 3;have z4_4:=zz4 4;have z5_4:=zz4 5;have z6_4:=zz4 6;have z7_4:=zz4 7;have z8_4:=zz4 8;have z9_4:=zz4 9;have z10_4:=zz4 10;have z11_4:=zz4 11;clear zz4;clear g4))
 go_ret;exact⟨by rw[← HN.out,HR.out];first|rfl|(simp;done),vM ((((uX w).alloc _).alloc _).trans GB4.out) b_38⟩
):p:=h
theorem c_7 {p:Prop} (h:p:=by
 cases b9 with
 | false =>
  exact e_6
 | true =>
  exact e_6
):p:=h
theorem f_4 {p:Prop} (h:p:=by
 go_ret;exact⟨by rw[← HN.out,HR.out];first|rfl|(simp;done),by repeat (first|refine uY ?_ GB4.out|refine uY ?_ GB3.out|refine uY ?_ GB2.out|exact uX w|refine uU ?_ _|refine uJ ?_|refine yZ ?_ b_54 _)⟩
):p:=h
theorem e_9 {p:Prop} (h:p:=by
 go_enter Tryz.func64,Tryz.ntmps64;go_wp2_with (first|(go_at_call 79;(first|(with_reducible refine(K1.out _).mono ?_;rintro e w1 ⟨rfl,rfl⟩)|(with_reducible refine(K2.out _).mono ?_;rintro e w1 ⟨rfl,rfl⟩)|(with_reducible refine(K3.out _).mono ?_;rintro e w1 ⟨rfl,rfl⟩))))
 exact f_4
):p:=h
theorem h_220 {p:Prop} (h:p:=by
 exact fun W=>dL o.id 1 1073741824 W
):p:=h
theorem h_223 {p:Prop} (h:p:=by
 exact fun W=>dL o.day 0 1048575 W
):p:=h
theorem h_219 {p:Prop} (h:p:=by
 exact fun W=>dL o.unit 1 1073741824 W
):p:=h
theorem s_19 {p:Prop} (h:p:=by
 generalize hR:aP _=R at hF ⊢;clear hR;generalize hN:(if R=true then(0:Int) else 1)=N;have HN:=uZ hN;clear hN;generalize aN i 1 1073741824=b1 at k1 hF;generalize aN d 0 1048575=b2 at k2 hF;generalize aN u 1 1073741824=b3 at k3 hF;exact nX.g
):p:=h
def zE4:=Unit
theorem zE4.g {p:Prop} (_:zE4) (h:p:=by
 have hF2:R=(b1 && (b2 && (b3 && E))):=by rw[hF,← hE]
 clear hF hE;have HR:=uZ hF2;clear hF2 hm;have K1:=uZ k1;have K2:=uZ k2;have K3:=uZ k3;clear k1 k2 k3
 cases b1 with
 | false =>
  exact e_9
 | true =>
  cases b2 with
  | false =>
   exact e_9
  | true =>
   cases b3 with
   | false =>
    exact e_9
   | true =>
    cases E with
    | false =>
     exact e_9
    | true =>
     exact e_9
):p:=h
theorem c_10 {p:Prop} (h:p:=by
 have HB:=uZ (fun W=>jS w o W);have k1:=h_220;have k2:=h_223;have k3:=h_219
 have hF:aP o=(aN o.id 1 1073741824 && (aN o.day 0 1048575 && (aN o.unit 1 1073741824 && (iE o && (cK o.title && (cK o.mark && eP o)))))):=by
  unfold aP pB;rw[if_neg b_53,if_neg b_53,if_neg b_53,if_neg b_53,if_pos b_53]
 unfold eP iE at hF;obtain⟨i,d,k,u,p,b,l,tt,m,x9,x10,x11⟩:=o;dsimp only at hk hm hF k1 k2 k3;subst hk
 have kN:∀ W,(binOp .neq 26 (.agg #[.int .i64 0,.int .i64 0,.int .i64 0,.int .i64 0,.int .i64 p,.int .i64 b,.int .i64 l,.string tt,.string m,.int .i64 x9,.int .i64 x10,.int .i64 x11]) (.agg #[.int .i64 0,.int .i64 0,.int .i64 0,.int .i64 0,.int .i64 0,.int .i64 0,.int .i64 0,.string ⟨#[]⟩,.string ⟨#[]⟩,.int .i64 0,.int .i64 0,.int .i64 0])).run Tryz.prog W=.ok (.bool (!(((p == 0) && ((b == 0) && (l == 0))) && (cK tt && (cK m && ((x9 == 0) && ((x10 == 0) && (x11 == 0)))))))) W:=fun W=>by
  rw[aXe];simp[cK,Bool.and_assoc]
 unfold Opn.agg;dsimp only;generalize hE:(((p == 0) && ((b == 0) && (l == 0))) && (cK tt && (cK m && ((x9 == 0) && ((x10 == 0) && (x11 == 0))))))=E at kN;have nX:zE4:=()
 exact s_19
):p:=h
theorem e_7 {p:Prop} (h:p:=by
 go_enter Tryz.func64,Tryz.ntmps64;go_wp2_with (first|(go_at_call 79;(first|(with_reducible refine(K1.out _).mono ?_;rintro e w1 ⟨rfl,rfl⟩)|(with_reducible refine(K2.out _).mono ?_;rintro e w1 ⟨rfl,rfl⟩)|(with_reducible refine(K3.out _).mono ?_;rintro e w1 ⟨rfl,rfl⟩)))|(go_at_call 82;refine(K8.out _).mono ?_;rintro e w3 ⟨rfl,g3⟩;have GB3:=uZ (show aA ((w.alloc (.cells [.int .i64 i,.int .i64 d,.int .i64 4,.int .i64 u,.int .i64 p,.int .i64 b,.int .i64 l,.string tt,.string m,.int .i64 x9,.int .i64 x10,.int .i64 x11].toArray 26)).alloc (.cells [.int .i64 0,.int .i64 0,.int .i64 0,.int .i64 0,.int .i64 p,.int .i64 b,.int .i64 l,.string tt,.string m,.int .i64 x9,.int .i64 x10,.int .i64 x11].toArray 26)) w3 from uY (by first|exact uX _) g3);obtain⟨⟨a0_3,a1_3,a2_3,a3_3,a4_3,a5_3,a6_3,a7_3,a8_3,a9_3,a10_3,a11_3⟩,⟨r0_3,r1_3,r2_3,r3_3,r4_3,r5_3,r6_3,r7_3,r8_3,r9_3,r10_3,r11_3⟩,zz3⟩:=HB.out w3 GB3.out;have z0_3:=zz3 0;have z1_3:=zz3 1;have z2_3:=zz3 2;have z3_3:=zz3 3;have z4_3:=zz3 4;have z5_3:=zz3 5;have z6_3:=zz3 6;have z7_3:=zz3 7;have z8_3:=zz3 8;have z9_3:=zz3 9;have z10_3:=zz3 10;have z11_3:=zz3 11;clear zz3;clear g3))
 exact f_4
):p:=h
theorem c_17 {p:Prop} (h:p:=by
 cases E with
 | false =>
  exact e_7
 | true =>
  exact e_7
):p:=h
theorem c_18 {p:Prop} (h:p:=by
 go_enter Tryz.func64,Tryz.ntmps64;go_wp2_with (first|(go_at_call 79;(first|(with_reducible refine(K1.out _).mono ?_;rintro e w1 ⟨rfl,rfl⟩)|(with_reducible refine(K2.out _).mono ?_;rintro e w1 ⟨rfl,rfl⟩)|(with_reducible refine(K3.out _).mono ?_;rintro e w1 ⟨rfl,rfl⟩)|(with_reducible refine(K4.out _).mono ?_;rintro e w1 ⟨rfl,rfl⟩)|(with_reducible refine(K5.out _).mono ?_;rintro e w1 ⟨rfl,rfl⟩)))|(go_at_call 80;refine(K6.out _).mono ?_;rintro e w1 ⟨rfl,rfl⟩)|(go_at_call 81;refine(K7.out _).mono ?_;rintro e w2 ⟨rfl,g2⟩;have GB2:=uZ (show aA ((w.alloc (.cells [.int .i64 i,.int .i64 d,.int .i64 1,.int .i64 u,.int .i64 p,.int .i64 b,.int .i64 l,.string tt,.string m,.int .i64 x9,.int .i64 x10,.int .i64 x11].toArray 26)).alloc (.cells [.int .i64 0,.int .i64 0,.int .i64 0,.int .i64 0,.int .i64 p,.int .i64 b,.int .i64 l,.string tt,.string m,.int .i64 x9,.int .i64 x10,.int .i64 x11].toArray 26)) w2 from uY (by first|exact uX _) g2);obtain⟨⟨_,_,_,_,_,_,_,_,a8_2,a9_2,a10_2,a11_2⟩,⟨_,_,_,_,_,_,_,_,_,_,_,_⟩,zz2⟩:=HB.out w2 GB2.out;clear zz2;clear g2)|(go_at_call 82;refine(K8.out _).mono ?_;rintro e w3 ⟨rfl,g3⟩;have GB3:=uZ (show aA ((w.alloc (.cells [.int .i64 i,.int .i64 d,.int .i64 1,.int .i64 u,.int .i64 p,.int .i64 b,.int .i64 l,.string tt,.string m,.int .i64 x9,.int .i64 x10,.int .i64 x11].toArray 26)).alloc (.cells [.int .i64 0,.int .i64 0,.int .i64 0,.int .i64 0,.int .i64 p,.int .i64 b,.int .i64 l,.string tt,.string m,.int .i64 x9,.int .i64 x10,.int .i64 x11].toArray 26)) w3 from uY (by first|exact GB2.out|exact uX _) g3);obtain⟨⟨_,_,_,_,_,_,_,_,_,a9_3,a10_3,a11_3⟩,⟨_,_,_,_,_,_,_,_,_,_,_,_⟩,zz3⟩:=HB.out w3 GB3.out;clear zz3;clear g3)|(go_at_call 83;refine(K9.out _).mono ?_;rintro e w4 ⟨rfl,g4⟩;have GB4:=uZ (show aA ((w.alloc (.cells [.int .i64 i,.int .i64 d,.int .i64 1,.int .i64 u,.int .i64 p,.int .i64 b,.int .i64 l,.string tt,.string m,.int .i64 x9,.int .i64 x10,.int .i64 x11].toArray 26)).alloc (.cells [.int .i64 0,.int .i64 0,.int .i64 0,.int .i64 0,.int .i64 p,.int .i64 b,.int .i64 l,.string tt,.string m,.int .i64 x9,.int .i64 x10,.int .i64 x11].toArray 26)) w4 from uY b_30 g4);obtain⟨⟨_,_,_,_,_,_,_,_,_,_,_,_⟩,⟨_,_,_,_,_,_,_,_,_,_,_,_⟩,zz4⟩:=HB.out w4 GB4.out;clear zz4;clear g4))
 go_ret;exact⟨by rw[← HN.out,HR.out];first|rfl|(simp;done),((uX w).alloc _).alloc _⟩
):p:=h
theorem e_10 {p:Prop} (h:p:=by
 exact f_4
):p:=h
theorem c_25 {p:Prop} (h:p:=by
 go_enter Tryz.func64,Tryz.ntmps64;go_wp2_with (first|(go_at_call 79;(first|(with_reducible refine(K1.out _).mono ?_;rintro e w1 ⟨rfl,rfl⟩)|(with_reducible refine(K2.out _).mono ?_;rintro e w1 ⟨rfl,rfl⟩)|(with_reducible refine(K3.out _).mono ?_;rintro e w1 ⟨rfl,rfl⟩)))|(go_at_call 81;refine(K7.out _).mono ?_;rintro e w2 ⟨rfl,g2⟩;have GB2:=uZ (show aA ((w.alloc (.cells [.int .i64 i,.int .i64 d,.int .i64 3,.int .i64 u,.int .i64 p,.int .i64 b,.int .i64 l,.string tt,.string m,.int .i64 x9,.int .i64 x10,.int .i64 x11].toArray 26)).alloc (.cells [.int .i64 0,.int .i64 0,.int .i64 0,.int .i64 0,.int .i64 p,.int .i64 b,.int .i64 l,.string tt,.string m,.int .i64 x9,.int .i64 x10,.int .i64 x11].toArray 26)) w2 from uY (by first|exact uX _) g2);obtain⟨⟨a0_2,a1_2,a2_2,a3_2,a4_2,a5_2,a6_2,a7_2,a8_2,a9_2,a10_2,a11_2⟩,⟨r0_2,r1_2,r2_2,r3_2,r4_2,r5_2,r6_2,r7_2,r8_2,r9_2,r10_2,r11_2⟩,zz2⟩:=HB.out w2 GB2.out;have z0_2:=zz2 0;have z1_2:=zz2 1;have z2_2:=zz2 2;have z3_2:=zz2 3;have z4_2:=zz2 4;have z5_2:=zz2 5;have z6_2:=zz2 6;have z7_2:=zz2 7;have z8_2:=zz2 8;have z9_2:=zz2 9;have z10_2:=zz2 10;have z11_2:=zz2 11;clear zz2;clear g2))
 exact e_10
):p:=h
theorem c_26 {p:Prop} (h:p:=by
 exact e_7
):p:=h
theorem c_39 {p:Prop} (h:p:=by
 go_enter Tryz.func64,Tryz.ntmps64;go_wp2_with (first|(go_at_call 79;(first|(with_reducible refine(K1.out _).mono ?_;rintro e w1 ⟨rfl,rfl⟩)|(with_reducible refine(K2.out _).mono ?_;rintro e w1 ⟨rfl,rfl⟩)|(with_reducible refine(K3.out _).mono ?_;rintro e w1 ⟨rfl,rfl⟩)|(with_reducible refine(K4.out _).mono ?_;rintro e w1 ⟨rfl,rfl⟩)|(with_reducible refine(K5.out _).mono ?_;rintro e w1 ⟨rfl,rfl⟩))))
 exact e_10
):p:=h
theorem aXe (w:World) (x0 y0 x1 y1 x2 y2 x3 y3 x4 y4 x5 y5 x6 y6:Int) (x7 y7 x8 y8:ByteArray) (x9 y9 x10 y10 x11 y11:Int):(binOp .neq 26 (.agg #[.int .i64 x0,.int .i64 x1,.int .i64 x2,.int .i64 x3,.int .i64 x4,.int .i64 x5,.int .i64 x6,.string x7,.string x8,.int .i64 x9,.int .i64 x10,.int .i64 x11]) (.agg #[.int .i64 y0,.int .i64 y1,.int .i64 y2,.int .i64 y3,.int .i64 y4,.int .i64 y5,.int .i64 y6,.string y7,.string y8,.int .i64 y9,.int .i64 y10,.int .i64 y11])).run Tryz.prog w=.ok (.bool (!((x0 == y0) && ((x1 == y1) && ((x2 == y2) && ((x3 == y3) && ((x4 == y4) && ((x5 == y5) && ((x6 == y6) && ((x7.toList == y7.toList) && ((x8.toList == y8.toList) && ((x9 == y9) && ((x10 == y10) && ((x11 == y11))))))))))))))) w:=by
 have h:=bEl w x0 y0 x1 y1 x2 y2 x3 y3 x4 y4 x5 y5 x6 y6 x7 y7 x8 y8 x9 y9 x10 y10 x11 y11;rw[run_eql_struct] at h;rw[run_neq_struct];generalize (Op.equalIn 10000 26 (.agg #[.int .i64 x0,.int .i64 x1,.int .i64 x2,.int .i64 x3,.int .i64 x4,.int .i64 x5,.int .i64 x6,.string x7,.string x8,.int .i64 x9,.int .i64 x10,.int .i64 x11]) (.agg #[.int .i64 y0,.int .i64 y1,.int .i64 y2,.int .i64 y3,.int .i64 y4,.int .i64 y5,.int .i64 y6,.string y7,.string y8,.int .i64 y9,.int .i64 y10,.int .i64 y11])).run Tryz.prog w=RX at h ⊢
 cases RX with
 | ok b w1 =>
  simp only [Result.andThen,Result.ok.injEq,Value.bool.injEq] at h ⊢;exact⟨by rw[h.1],h.2⟩
 | _=>cases h
theorem aLx (m:ByteArray):tY m.data.toList=(cK m || jP m.data.toList):=by
 have h:cK m=decide (m.data.toList.length=0):=by
  unfold cK;rw[ByteArray.toList_eq];cases m.data.toList<;>rfl
 rw[h];unfold tY jP;by_cases h0:m.data.toList.length=0
 ·have h1:m.data.toList=[]:=List.eq_nil_of_length_eq_zero h0
  rw[h1];simp[iB]
 ·have h2:1≤m.data.toList.length:=by omega
  rw[decide_eq_false h0,Bool.false_or];simp only [h2,true_and]
theorem jS (w:World) (o:Opn) (W:World) (g:aA ((w.alloc (.cells o.cells.toArray 26)).alloc (.cells (⟨0,0,0,0,o.parent,o.before,o.level,o.title,o.mark,o.office,o.acc,o.num⟩:Opn).cells.toArray 26)) W):(W.cell? ⟨w.heap.size,0,none⟩=some (.int .i64 o.id)∧W.cell? ⟨w.heap.size,1,none⟩=some (.int .i64 o.day)∧W.cell? ⟨w.heap.size,2,none⟩=some (.int .i64 o.kind)∧W.cell? ⟨w.heap.size,3,none⟩=some (.int .i64 o.unit)∧W.cell? ⟨w.heap.size,4,none⟩=some (.int .i64 o.parent)∧W.cell? ⟨w.heap.size,5,none⟩=some (.int .i64 o.before)∧W.cell? ⟨w.heap.size,6,none⟩=some (.int .i64 o.level)∧W.cell? ⟨w.heap.size,7,none⟩=some (.string o.title)∧W.cell? ⟨w.heap.size,8,none⟩=some (.string o.mark)∧W.cell? ⟨w.heap.size,9,none⟩=some (.int .i64 o.office)∧W.cell? ⟨w.heap.size,10,none⟩=some (.int .i64 o.acc)∧W.cell? ⟨w.heap.size,11,none⟩=some (.int .i64 o.num))∧(W.cell? ⟨w.heap.size+1,0,none⟩=some (.int .i64 0)∧W.cell? ⟨w.heap.size+1,1,none⟩=some (.int .i64 0)∧W.cell? ⟨w.heap.size+1,2,none⟩=some (.int .i64 0)∧W.cell? ⟨w.heap.size+1,3,none⟩=some (.int .i64 0)∧W.cell? ⟨w.heap.size+1,4,none⟩=some (.int .i64 o.parent)∧W.cell? ⟨w.heap.size+1,5,none⟩=some (.int .i64 o.before)∧W.cell? ⟨w.heap.size+1,6,none⟩=some (.int .i64 o.level)∧W.cell? ⟨w.heap.size+1,7,none⟩=some (.string o.title)∧W.cell? ⟨w.heap.size+1,8,none⟩=some (.string o.mark)∧W.cell? ⟨w.heap.size+1,9,none⟩=some (.int .i64 o.office)∧W.cell? ⟨w.heap.size+1,10,none⟩=some (.int .i64 o.acc)∧W.cell? ⟨w.heap.size+1,11,none⟩=some (.int .i64 o.num))∧(∀ j,W.frozen? ⟨w.heap.size+1,j,none⟩=false):=by
 have g1:aA (w.alloc (.cells o.cells.toArray 26)) W:=((uX _).alloc _).trans g;have r:=aU (⟨0,0,0,0,o.parent,o.before,o.level,o.title,o.mark,o.office,o.acc,o.num⟩:Opn) g
 have z:∀ j,W.frozen? ⟨w.heap.size+1,j,none⟩=false:=fun j=>by
  have:=cI g j;rw[eN] at this;exact this
 rw[eN] at r;exact⟨aU o g1,r,z⟩
def zE0:=Unit
theorem zE0.g {p:Prop} (_:zE0) (h:p:=by
 generalize aN p 0 1073741824=b4 at k4 hF;generalize aN b 0 1073741824=b5 at k5 hF;generalize aN l 1 4=b6 at k6 hF;generalize fB tt.data.toList=b7 at k7 hF;generalize jP m.data.toList=b8 at k8 hF;generalize iU x9 x10 x11=b9 at k9 hF;have hF2:R=(b1 && (b2 && (b3 && ((b4 && b5) && (b6 && (b7 && ((cK m || b8) && b9))))))):=hF;clear hF;generalize hM:cK m=em at hF2;have hM2:m.toList.isEmpty=em:=hM;clear hM;have HR:=uZ hF2;clear hF2 hm;have K1:=uZ k1;have K2:=uZ k2;have K3:=uZ k3;have K4:=uZ k4;have K5:=uZ k5;have K6:=uZ k6;have K7:=uZ k7;have K8:=uZ k8;have K9:=uZ k9;clear k1 k2 k3 k4 k5 k6 k7 k8 k9
 cases b1 with
 | false =>
  exact c_18
 | true =>
  cases b2 with
  | false =>
   exact c_18
  | true =>
   cases b3 with
   | false =>
    exact c_18
   | true =>
    cases b4 with
    | false =>
     exact c_18
    | true =>
     cases b5 with
     | false =>
      exact c_18
     | true =>
      cases b6 with
      | false =>
       exact c_18
      | true =>
       cases b7 with
       | false =>
        go_enter Tryz.func64,Tryz.ntmps64;go_wp2_with (first|(go_at_call 79;(first|(with_reducible refine(K1.out _).mono ?_;rintro e w1 ⟨rfl,rfl⟩)|(with_reducible refine(K2.out _).mono ?_;rintro e w1 ⟨rfl,rfl⟩)|(with_reducible refine(K3.out _).mono ?_;rintro e w1 ⟨rfl,rfl⟩)|(with_reducible refine(K4.out _).mono ?_;rintro e w1 ⟨rfl,rfl⟩)|(with_reducible refine(K5.out _).mono ?_;rintro e w1 ⟨rfl,rfl⟩)))|(go_at_call 80;refine(K6.out _).mono ?_;rintro e w1 ⟨rfl,rfl⟩)|(go_at_call 81;refine(K7.out _).mono ?_;rintro e w2 ⟨rfl,g2⟩;have GB2:=uZ (show aA ((w.alloc (.cells [.int .i64 i,.int .i64 d,.int .i64 1,.int .i64 u,.int .i64 p,.int .i64 b,.int .i64 l,.string tt,.string m,.int .i64 x9,.int .i64 x10,.int .i64 x11].toArray 26)).alloc (.cells [.int .i64 0,.int .i64 0,.int .i64 0,.int .i64 0,.int .i64 p,.int .i64 b,.int .i64 l,.string tt,.string m,.int .i64 x9,.int .i64 x10,.int .i64 x11].toArray 26)) w2 from uY (by first|exact uX _) g2);obtain⟨⟨_,_,_,_,_,_,_,_,a8_2,a9_2,a10_2,a11_2⟩,⟨r0_2,r1_2,r2_2,r3_2,r4_2,r5_2,r6_2,r7_2,r8_2,r9_2,r10_2,r11_2⟩,zz2⟩:=HB.out w2 GB2.out;have z0_2:=zz2 0;have z1_2:=zz2 1;have z2_2:=zz2 2;have z3_2:=zz2 3;have z4_2:=zz2 4;have z5_2:=zz2 5;have z6_2:=zz2 6;have z7_2:=zz2 7;have z8_2:=zz2 8;have z9_2:=zz2 9;have z10_2:=zz2 10;have z11_2:=zz2 11;clear zz2;clear g2)|(go_at_call 82;refine(K8.out _).mono ?_;rintro e w3 ⟨rfl,g3⟩;have GB3:=uZ (show aA ((w.alloc (.cells [.int .i64 i,.int .i64 d,.int .i64 1,.int .i64 u,.int .i64 p,.int .i64 b,.int .i64 l,.string tt,.string m,.int .i64 x9,.int .i64 x10,.int .i64 x11].toArray 26)).alloc (.cells [.int .i64 0,.int .i64 0,.int .i64 0,.int .i64 0,.int .i64 p,.int .i64 b,.int .i64 l,.string tt,.string m,.int .i64 x9,.int .i64 x10,.int .i64 x11].toArray 26)) w3 from uY (by first|exact GB2.out|exact uX _) g3);obtain⟨⟨_,_,_,_,_,_,_,_,_,a9_3,a10_3,a11_3⟩,⟨_,_,_,_,_,_,_,_,_,_,_,_⟩,zz3⟩:=HB.out w3 GB3.out;clear zz3;clear g3)|(go_at_call 83;refine(K9.out _).mono ?_;rintro e w4 ⟨rfl,g4⟩;have GB4:=uZ (show aA ((w.alloc (.cells [.int .i64 i,.int .i64 d,.int .i64 1,.int .i64 u,.int .i64 p,.int .i64 b,.int .i64 l,.string tt,.string m,.int .i64 x9,.int .i64 x10,.int .i64 x11].toArray 26)).alloc (.cells [.int .i64 0,.int .i64 0,.int .i64 0,.int .i64 0,.int .i64 p,.int .i64 b,.int .i64 l,.string tt,.string m,.int .i64 x9,.int .i64 x10,.int .i64 x11].toArray 26)) w4 from uY b_30 g4);obtain⟨⟨_,_,_,_,_,_,_,_,_,_,_,_⟩,⟨_,_,_,_,_,_,_,_,_,_,_,_⟩,zz4⟩:=HB.out w4 GB4.out;clear zz4;clear g4))
        go_ret;exact⟨by rw[← HN.out,HR.out];first|rfl|(simp;done),vM ((((uX w).alloc _).alloc _).trans GB2.out) b_38⟩
       | true =>
        cases em with
        | false =>
         cases b8 with
         | false =>
          go_enter Tryz.func64,Tryz.ntmps64;go_wp2_with (first|(go_at_call 79;(first|(with_reducible refine(K1.out _).mono ?_;rintro e w1 ⟨rfl,rfl⟩)|(with_reducible refine(K2.out _).mono ?_;rintro e w1 ⟨rfl,rfl⟩)|(with_reducible refine(K3.out _).mono ?_;rintro e w1 ⟨rfl,rfl⟩)|(with_reducible refine(K4.out _).mono ?_;rintro e w1 ⟨rfl,rfl⟩)|(with_reducible refine(K5.out _).mono ?_;rintro e w1 ⟨rfl,rfl⟩)))|(go_at_call 80;refine(K6.out _).mono ?_;rintro e w1 ⟨rfl,rfl⟩)|(go_at_call 81;refine(K7.out _).mono ?_;rintro e w2 ⟨rfl,g2⟩;have GB2:=uZ (show aA ((w.alloc (.cells [.int .i64 i,.int .i64 d,.int .i64 1,.int .i64 u,.int .i64 p,.int .i64 b,.int .i64 l,.string tt,.string m,.int .i64 x9,.int .i64 x10,.int .i64 x11].toArray 26)).alloc (.cells [.int .i64 0,.int .i64 0,.int .i64 0,.int .i64 0,.int .i64 p,.int .i64 b,.int .i64 l,.string tt,.string m,.int .i64 x9,.int .i64 x10,.int .i64 x11].toArray 26)) w2 from uY (by first|exact uX _) g2);obtain⟨⟨_,_,_,_,_,_,_,_,a8_2,a9_2,a10_2,a11_2⟩,⟨_,_,_,_,_,_,_,_,_,_,_,_⟩,zz2⟩:=HB.out w2 GB2.out;clear zz2;clear g2)|(go_at_call 82;refine(K8.out _).mono ?_;rintro e w3 ⟨rfl,g3⟩;have GB3:=uZ (show aA ((w.alloc (.cells [.int .i64 i,.int .i64 d,.int .i64 1,.int .i64 u,.int .i64 p,.int .i64 b,.int .i64 l,.string tt,.string m,.int .i64 x9,.int .i64 x10,.int .i64 x11].toArray 26)).alloc (.cells [.int .i64 0,.int .i64 0,.int .i64 0,.int .i64 0,.int .i64 p,.int .i64 b,.int .i64 l,.string tt,.string m,.int .i64 x9,.int .i64 x10,.int .i64 x11].toArray 26)) w3 from uY (by first|exact GB2.out|exact uX _) g3);obtain⟨⟨_,_,_,_,_,_,_,_,_,a9_3,a10_3,a11_3⟩,⟨r0_3,r1_3,r2_3,r3_3,r4_3,r5_3,r6_3,r7_3,r8_3,r9_3,r10_3,r11_3⟩,zz3⟩:=HB.out w3 GB3.out;have z0_3:=zz3 0;have z1_3:=zz3 1;have z2_3:=zz3 2;have z3_3:=zz3 3;have z4_3:=zz3 4;have z5_3:=zz3 5;have z6_3:=zz3 6;have z7_3:=zz3 7;have z8_3:=zz3 8;have z9_3:=zz3 9;have z10_3:=zz3 10;have z11_3:=zz3 11;clear zz3;clear g3)|(go_at_call 83;refine(K9.out _).mono ?_;rintro e w4 ⟨rfl,g4⟩;have GB4:=uZ (show aA ((w.alloc (.cells [.int .i64 i,.int .i64 d,.int .i64 1,.int .i64 u,.int .i64 p,.int .i64 b,.int .i64 l,.string tt,.string m,.int .i64 x9,.int .i64 x10,.int .i64 x11].toArray 26)).alloc (.cells [.int .i64 0,.int .i64 0,.int .i64 0,.int .i64 0,.int .i64 p,.int .i64 b,.int .i64 l,.string tt,.string m,.int .i64 x9,.int .i64 x10,.int .i64 x11].toArray 26)) w4 from uY b_30 g4);obtain⟨⟨_,_,_,_,_,_,_,_,_,_,_,_⟩,⟨_,_,_,_,_,_,_,_,_,_,_,_⟩,zz4⟩:=HB.out w4 GB4.out;clear zz4;clear g4))
          go_ret;exact⟨by rw[← HN.out,HR.out];first|rfl|(simp;done),vM ((((uX w).alloc _).alloc _).trans GB3.out) b_38⟩
         | true =>
          exact c_7
        | true =>
         exact c_7
):p:=h
theorem aZb (o:Opn) (w:World) (hm:o.mark.size≤9223372036854775807) (hk:o.kind=1):Calls Tryz.prog 64 #[o.agg] w fun e w'=>e=.returned (.int .i64 (if aP o=true then 0 else 1))∧aA w w':=by
 have HB:=uZ (fun W=>jS w o W);have k1:=h_220;have k2:=h_223;have k3:=h_219;have k4:=fun W=>dL o.parent 0 1073741824 W
 have k5:=fun W=>dL o.before 0 1073741824 W
 have k6:=fun W=>rO o.level W
 have k7:=fun W=>aCb o.title W
 have k8:=fun W=>aCi o.mark W hm
 have k9:=fun W=>uR o.office o.acc o.num W
 have hF:aP o=(aN o.id 1 1073741824 && (aN o.day 0 1048575 && (aN o.unit 1 1073741824 && (sS o && (aN o.level 1 4 && (fB o.title.data.toList && ((cK o.mark || jP o.mark.data.toList) && iU o.office o.acc o.num))))))):=by
  unfold aP pB;rw[if_pos hk];rw[aLx]
 unfold sS at hF;obtain⟨i,d,k,u,p,b,l,tt,m,x9,x10,x11⟩:=o;dsimp only at hk hm hF k1 k2 k3 k4 k5 k6 k7 k8 k9;subst hk
 have kN:∀ W,(binOp .neq 26 (.agg #[.int .i64 0,.int .i64 0,.int .i64 0,.int .i64 0,.int .i64 0,.int .i64 0,.int .i64 0,.string ⟨#[]⟩,.string ⟨#[]⟩,.int .i64 0,.int .i64 0,.int .i64 0]) (.agg #[.int .i64 0,.int .i64 0,.int .i64 0,.int .i64 0,.int .i64 0,.int .i64 0,.int .i64 0,.string ⟨#[]⟩,.string ⟨#[]⟩,.int .i64 0,.int .i64 0,.int .i64 0])).run Tryz.prog W=.ok (.bool (!(true))) W:=fun W=>by
  rw[aXe];simp
 unfold Opn.agg;dsimp only;have nX:zE0:=()
 exact s_19
def zE1:=Unit
theorem zE1.g {p:Prop} (_:zE1) (h:p:=by
 generalize aN p 0 1073741824=b4 at k4 hF;generalize aN b 0 1073741824=b5 at k5 hF;have hF2:R=(b1 && (b2 && (b3 && ((b4 && b5) && E)))):=by rw[hF,← hE]
 clear hF hE;have HR:=uZ hF2;clear hF2 hm;have K1:=uZ k1;have K2:=uZ k2;have K3:=uZ k3;have K4:=uZ k4;have K5:=uZ k5;clear k1 k2 k3 k4 k5
 cases b1 with
 | false =>
  exact c_39
 | true =>
  cases b2 with
  | false =>
   exact c_39
  | true =>
   cases b3 with
   | false =>
    exact c_39
   | true =>
    cases b4 with
    | false =>
     exact c_39
    | true =>
     cases b5 with
     | false =>
      exact c_39
     | true =>
      cases E with
      | false =>
       exact c_39
      | true =>
       exact c_39
):p:=h
theorem aZa (o:Opn) (w:World) (hm:o.mark.size≤9223372036854775807) (hk:o.kind=2):Calls Tryz.prog 64 #[o.agg] w fun e w'=>e=.returned (.int .i64 (if aP o=true then 0 else 1))∧aA w w':=by
 have HB:=uZ (fun W=>jS w o W);have k1:=h_220;have k2:=h_223;have k3:=h_219;have k4:=fun W=>dL o.parent 0 1073741824 W
 have k5:=fun W=>dL o.before 0 1073741824 W
 have hF:aP o=(aN o.id 1 1073741824 && (aN o.day 0 1048575 && (aN o.unit 1 1073741824 && (sS o && (o.level == 0 && (cK o.title && (cK o.mark && eP o))))))):=by
  unfold aP pB;rw[if_neg b_53,if_pos hk]
 unfold sS eP at hF;obtain⟨i,d,k,u,p,b,l,tt,m,x9,x10,x11⟩:=o;dsimp only at hk hm hF k1 k2 k3 k4 k5;subst hk
 have kN:∀ W,(binOp .neq 26 (.agg #[.int .i64 0,.int .i64 0,.int .i64 0,.int .i64 0,.int .i64 0,.int .i64 0,.int .i64 l,.string tt,.string m,.int .i64 x9,.int .i64 x10,.int .i64 x11]) (.agg #[.int .i64 0,.int .i64 0,.int .i64 0,.int .i64 0,.int .i64 0,.int .i64 0,.int .i64 0,.string ⟨#[]⟩,.string ⟨#[]⟩,.int .i64 0,.int .i64 0,.int .i64 0])).run Tryz.prog W=.ok (.bool (!((l == 0) && (cK tt && (cK m && ((x9 == 0) && ((x10 == 0) && (x11 == 0)))))))) W:=fun W=>by
  rw[aXe];simp[cK]
 unfold Opn.agg;dsimp only;generalize hE:((l == 0) && (cK tt && (cK m && ((x9 == 0) && ((x10 == 0) && (x11 == 0))))))=E at kN;have nX:zE1:=()
 exact s_19
def zE2:=Unit
theorem zE2.g {p:Prop} (_:zE2) (h:p:=by
 generalize fB tt.data.toList=b7 at k7 hF;have hF2:R=(b1 && (b2 && (b3 && (b7 && E)))):=by rw[hF,← hE]
 clear hF hE;have HR:=uZ hF2;clear hF2 hm;have K1:=uZ k1;have K2:=uZ k2;have K3:=uZ k3;have K7:=uZ k7;clear k1 k2 k3 k7
 cases b1 with
 | false =>
  exact c_25
 | true =>
  cases b2 with
  | false =>
   exact c_25
  | true =>
   cases b3 with
   | false =>
    exact c_25
   | true =>
    cases b7 with
    | false =>
     exact c_25
    | true =>
     cases E with
     | false =>
      exact c_25
     | true =>
      exact c_25
):p:=h
theorem aYz (o:Opn) (w:World) (hm:o.mark.size≤9223372036854775807) (hk:o.kind=3):Calls Tryz.prog 64 #[o.agg] w fun e w'=>e=.returned (.int .i64 (if aP o=true then 0 else 1))∧aA w w':=by
 have HB:=uZ (fun W=>jS w o W);have k1:=h_220;have k2:=h_223;have k3:=h_219;have k7:=fun W=>aCb o.title W
 have hF:aP o=(aN o.id 1 1073741824 && (aN o.day 0 1048575 && (aN o.unit 1 1073741824 && (fB o.title.data.toList && (iE o && (cK o.mark && eP o)))))):=by
  unfold aP pB;rw[if_neg b_53,if_neg b_53,if_pos hk]
 unfold eP iE at hF;obtain⟨i,d,k,u,p,b,l,tt,m,x9,x10,x11⟩:=o;dsimp only at hk hm hF k1 k2 k3 k7;subst hk
 have kN:∀ W,(binOp .neq 26 (.agg #[.int .i64 0,.int .i64 0,.int .i64 0,.int .i64 0,.int .i64 p,.int .i64 b,.int .i64 l,.string ⟨#[]⟩,.string m,.int .i64 x9,.int .i64 x10,.int .i64 x11]) (.agg #[.int .i64 0,.int .i64 0,.int .i64 0,.int .i64 0,.int .i64 0,.int .i64 0,.int .i64 0,.string ⟨#[]⟩,.string ⟨#[]⟩,.int .i64 0,.int .i64 0,.int .i64 0])).run Tryz.prog W=.ok (.bool (!(((p == 0) && ((b == 0) && (l == 0))) && (cK m && ((x9 == 0) && ((x10 == 0) && (x11 == 0))))))) W:=fun W=>by
  rw[aXe];simp[cK,Bool.and_assoc]
 unfold Opn.agg;dsimp only;generalize hE:(((p == 0) && ((b == 0) && (l == 0))) && (cK m && ((x9 == 0) && ((x10 == 0) && (x11 == 0)))))=E at kN;have nX:zE2:=()
 exact s_19
def zE3:=Unit
theorem zE3.g {p:Prop} (_:zE3) (h:p:=by
 generalize jP m.data.toList=b8 at k8 hF;have hF2:R=(b1 && (b2 && (b3 && ((cK m || b8) && E)))):=by rw[hF,← hE]
 clear hF hE;generalize hM:cK m=em at hF2;have hM2:m.toList.isEmpty=em:=hM;clear hM;have HR:=uZ hF2;clear hF2 hm;have K1:=uZ k1;have K2:=uZ k2;have K3:=uZ k3;have K8:=uZ k8;clear k1 k2 k3 k8
 cases b1 with
 | false =>
  exact c_26
 | true =>
  cases b2 with
  | false =>
   exact c_26
  | true =>
   cases b3 with
   | false =>
    exact c_26
   | true =>
    cases em with
    | false =>
     cases b8 with
     | false =>
      exact c_26
     | true =>
      exact c_17
    | true =>
     exact c_17
):p:=h
theorem aYy (o:Opn) (w:World) (hm:o.mark.size≤9223372036854775807) (hk:o.kind=4):Calls Tryz.prog 64 #[o.agg] w fun e w'=>e=.returned (.int .i64 (if aP o=true then 0 else 1))∧aA w w':=by
 have HB:=uZ (fun W=>jS w o W);have k1:=h_220;have k2:=h_223;have k3:=h_219;have k8:=fun W=>aCi o.mark W hm
 have hF:aP o=(aN o.id 1 1073741824 && (aN o.day 0 1048575 && (aN o.unit 1 1073741824 && ((cK o.mark || jP o.mark.data.toList) && (iE o && (cK o.title && eP o)))))):=by
  unfold aP pB;rw[if_neg b_53,if_neg b_53,if_neg b_53,if_pos hk];rw[aLx]
 unfold eP iE at hF;obtain⟨i,d,k,u,p,b,l,tt,m,x9,x10,x11⟩:=o;dsimp only at hk hm hF k1 k2 k3 k8;subst hk
 have kN:∀ W,(binOp .neq 26 (.agg #[.int .i64 0,.int .i64 0,.int .i64 0,.int .i64 0,.int .i64 p,.int .i64 b,.int .i64 l,.string tt,.string ⟨#[]⟩,.int .i64 x9,.int .i64 x10,.int .i64 x11]) (.agg #[.int .i64 0,.int .i64 0,.int .i64 0,.int .i64 0,.int .i64 0,.int .i64 0,.int .i64 0,.string ⟨#[]⟩,.string ⟨#[]⟩,.int .i64 0,.int .i64 0,.int .i64 0])).run Tryz.prog W=.ok (.bool (!(((p == 0) && ((b == 0) && (l == 0))) && (cK tt && ((x9 == 0) && ((x10 == 0) && (x11 == 0))))))) W:=fun W=>by
  rw[aXe];simp[cK,Bool.and_assoc]
 unfold Opn.agg;dsimp only;generalize hE:(((p == 0) && ((b == 0) && (l == 0))) && (cK tt && ((x9 == 0) && ((x10 == 0) && (x11 == 0)))))=E at kN;have nX:zE3:=()
 exact s_19
theorem aYx (o:Opn) (w:World) (hm:o.mark.size≤9223372036854775807) (hk:o.kind=5):Calls Tryz.prog 64 #[o.agg] w fun e w'=>e=.returned (.int .i64 (if aP o=true then 0 else 1))∧aA w w':=by
 exact c_10
theorem aYw (o:Opn) (w:World) (hm:o.mark.size≤9223372036854775807) (hk:o.kind=6):Calls Tryz.prog 64 #[o.agg] w fun e w'=>e=.returned (.int .i64 (if aP o=true then 0 else 1))∧aA w w':=by
 exact c_10
theorem aZc (o:Opn) (w:World) (h1:o.kind≠1) (h2:o.kind≠2) (h3:o.kind≠3) (h4:o.kind≠4) (h5:o.kind≠5) (h6:o.kind≠6):Calls Tryz.prog 64 #[o.agg] w fun e w'=>e=.returned (.int .i64 1)∧aA w w':=by
 have k1:=h_220;have k2:=h_223;have k3:=h_219;obtain⟨i,d,k,u,p,b,l,tt,m,x9,x10,x11⟩:=o;unfold Opn.agg;dsimp only at h1 h2 h3 h4 h5 h6 k1 k2 k3 ⊢;generalize aN i 1 1073741824=b1 at k1;generalize aN d 0 1048575=b2 at k2;generalize aN u 1 1073741824=b3 at k3;have K1:=uZ k1;have K2:=uZ k2;have K3:=uZ k3;have e1:(k == 1)=false:=by simpa using h1
 have e2:(k == 2)=false:=by simpa using h2
 have e3:(k == 3)=false:=by simpa using h3
 have e4:(k == 4)=false:=by simpa using h4
 have e5:(k == 5)=false:=by simpa using h5
 have e6:(k == 6)=false:=by simpa using h6
 clear k1 k2 k3 h1 h2 h3 h4 h5 h6;cases b1<;>cases b2<;>cases b3
 all_goals
  go_enter Tryz.func64,Tryz.ntmps64;go_wp2_with (first|(go_at_call 79;(first|(with_reducible refine(K1.out _).mono ?_;rintro e w1 ⟨rfl,rfl⟩)|(with_reducible refine(K2.out _).mono ?_;rintro e w1 ⟨rfl,rfl⟩)|(with_reducible refine(K3.out _).mono ?_;rintro e w1 ⟨rfl,rfl⟩))))
  go_ret;exact⟨rfl,((uX w).alloc _).alloc _⟩
theorem fQ (o:Opn) (w:World) (hm:o.mark.size≤9223372036854775807):Calls Tryz.prog 64 #[o.agg] w fun e w'=>e=.returned (.int .i64 (if aP o=true then 0 else 1))∧aA w w':=by
 by_cases h1:o.kind=1
 ·exact aZb o w hm h1
 by_cases h2:o.kind=2
 ·exact aZa o w hm h2
 by_cases h3:o.kind=3
 ·exact aYz o w hm h3
 by_cases h4:o.kind=4
 ·exact aYy o w hm h4
 by_cases h5:o.kind=5
 ·exact aYx o w hm h5
 by_cases h6:o.kind=6
 ·exact aYw o w hm h6
 have hf:aP o=false:=by
  unfold aP pB;rw[if_neg h1,if_neg h2,if_neg h3,if_neg h4,if_neg b_53];simp
 rw[hf];exact aZc o w h1 h2 h3 h4 h5 h6
end Go.Proofs.YtdochkemaiokfaaGreat