/- Lemmas on what the functions of the program and of the library compute: Ap3. The conditions stand at each. -/
import Derived.Test.YtdochkemaiokfaaGreatQ25
set_option maxHeartbeats 16000000
set_option maxRecDepth 100000
set_option linter.all false
namespace Go.Proofs.YtdochkemaiokfaaGreat
open Go.RowKit
theorem c_14 {p:Prop} (h:p:=by
 obtain rfl:=fN hfn;clear hfn;go_wp2_with (first|(go_at_call 97;refine(KF.out _ GV.out).mono ?_;rintro e w1 ⟨rfl,g1⟩;have G1:=uZ (GV.out.trans g1);have b01:=uQ g1 b0V;have b11:=uQ g1 b1V;have a01:=uQ g1 a0V;have a11:=uQ g1 a1V;have a21:=uQ g1 a2V;have a31:=uQ g1 a3V;have a41:=uQ g1 a4V;have a51:=uQ g1 a5V;have a61:=uQ g1 a6V;have a71:=uQ g1 a7V;have a81:=uQ g1 a8V;have a91:=uQ g1 a9V;have a101:=uQ g1 a10V;have a111:=uQ g1 a11V;have r01:=uQ g1 r0V;have r11:=uQ g1 r1V;have z01:=(aA.frozen g1 (p:=_) (World.block_lt_of_cell? _ _ r0V)).trans z0V;have z11:=(aA.frozen g1 (p:=_) (World.block_lt_of_cell? _ _ r1V)).trans z1V;have HPV1:=uZ (uK g1 HPV.out);clear g1)|(go_at_call 98;refine(KR.out _ G1.out).mono ?_;rintro e w2 ⟨bb,rfl,hbb,g2⟩;have hq:=HRR.out bb hbb;subst hq;have G2:=uZ (G1.out.trans g2);have b02:=uQ g2 b01;have b12:=uQ g2 b11;have a02:=uQ g2 a01;have a12:=uQ g2 a11;have a22:=uQ g2 a21;have a32:=uQ g2 a31;have a42:=uQ g2 a41;have a52:=uQ g2 a51;have a62:=uQ g2 a61;have a72:=uQ g2 a71;have a82:=uQ g2 a81;have a92:=uQ g2 a91;have a102:=uQ g2 a101;have a112:=uQ g2 a111;have r02:=uQ g2 r01;have r12:=uQ g2 r11;have z02:=(aA.frozen g2 (p:=_) (World.block_lt_of_cell? _ _ r01)).trans z01;have z12:=(aA.frozen g2 (p:=_) (World.block_lt_of_cell? _ _ r11)).trans z11;have G12:=uZ g2;clear g2 hbb)|(go_at_call 99;refine(KE.out _ G2.out).mono ?_;rintro e w3 ⟨E,bv3,rfl,hEd,g3⟩;have HEd:=uZ hEd;have HG3:=uZ g3;have G3:=uZ (G2.out.trans g3);have b03:=uQ g3 b02;have b13:=uQ g3 b12;have a03:=uQ g3 a02;have a13:=uQ g3 a12;have a23:=uQ g3 a22;have a33:=uQ g3 a32;have a43:=uQ g3 a42;have a53:=uQ g3 a52;have a63:=uQ g3 a62;have a73:=uQ g3 a72;have a83:=uQ g3 a82;have a93:=uQ g3 a92;have a103:=uQ g3 a102;have a113:=uQ g3 a112;have r03:=uQ g3 r02;have r13:=uQ g3 r12;have z03:=(aA.frozen g3 (p:=_) (World.block_lt_of_cell? _ _ r02)).trans z02;have z13:=(aA.frozen g3 (p:=_) (World.block_lt_of_cell? _ _ r12)).trans z12;clear g3 hEd)|((first|go_at_call 92|go_at_call 93|go_at_call 94|go_at_call 95|go_at_call 96);refine(KD.out _ _ _ _ HEd.out HG3.out (HE.out.mono G2.out)).mono ?_;rintro e w4 ⟨rfl,g24,hT⟩;have HT:=uZ hT;have g4:=uZ (show aA w2 w4 from g24);have G4:=uZ (G2.out.trans g24);have b04:=uQ g4.out b02;have b14:=uQ g4.out b12;have a04:=uQ g4.out a02;have a14:=uQ g4.out a12;have a24:=uQ g4.out a22;have a34:=uQ g4.out a32;have a44:=uQ g4.out a42;have a54:=uQ g4.out a52;have a64:=uQ g4.out a62;have a74:=uQ g4.out a72;have a84:=uQ g4.out a82;have a94:=uQ g4.out a92;have a104:=uQ g4.out a102;have a114:=uQ g4.out a112;have r04:=uQ g4.out r02;have r14:=uQ g4.out r12;have z04:=(aA.frozen g4.out (p:=_) (World.block_lt_of_cell? _ _ r02)).trans z02;have z14:=(aA.frozen g4.out (p:=_) (World.block_lt_of_cell? _ _ r12)).trans z12;obtain⟨bv5,rv5,cs5,hE5⟩:=hT rfl;obtain⟨q0,q1,-,-⟩:=hE5.cells;obtain⟨A5,c5,rfl⟩:=aJ hE5.roots;obtain⟨A6,c6,rfl⟩:=aJ hE5.brs;have HE5:=uZ hE5;have HP4:=uZ (uK g4.out (uK G12.out HPV1.out));clear g24 hT hE5))
 obtain⟨q0f,q1f⟩:=aK (v0:=(.slice A5 RT.roots.length c5)) (v1:=(.slice A6 RT.brs.length c6)) r04 r14;refine bodyPost_ret (v:=.tuple #[.agg #[(.slice A5 RT.roots.length c5),(.slice A6 RT.brs.length c6)],.int .i64 0]) b_31 rfl ?_;exact mM HE5.out HP4.out b_53 G4.out
):p:=h
theorem c_16 {p:Prop} (h:p:=by
 obtain rfl:=fN hfn;clear hfn;go_wp2_with (first|(go_at_call 97;refine(KF.out _ GV.out).mono ?_;rintro e w1 ⟨rfl,g1⟩;have G1:=uZ (GV.out.trans g1);have b01:=uQ g1 b0V;have b11:=uQ g1 b1V;have a01:=uQ g1 a0V;have a11:=uQ g1 a1V;have a21:=uQ g1 a2V;have a31:=uQ g1 a3V;have a41:=uQ g1 a4V;have a51:=uQ g1 a5V;have a61:=uQ g1 a6V;have a71:=uQ g1 a7V;have a81:=uQ g1 a8V;have a91:=uQ g1 a9V;have a101:=uQ g1 a10V;have a111:=uQ g1 a11V;have r01:=uQ g1 r0V;have r11:=uQ g1 r1V;have z01:=(aA.frozen g1 (p:=_) (World.block_lt_of_cell? _ _ r0V)).trans z0V;have z11:=(aA.frozen g1 (p:=_) (World.block_lt_of_cell? _ _ r1V)).trans z1V;clear g1)|(go_at_call 98;refine(KR.out _ G1.out).mono ?_;rintro e w2 ⟨bb,rfl,hbb,g2⟩;have hq:=HRR.out bb hbb;subst hq;have G2:=uZ (G1.out.trans g2);have b02:=uQ g2 b01;have b12:=uQ g2 b11;have a02:=uQ g2 a01;have a12:=uQ g2 a11;have a22:=uQ g2 a21;have a32:=uQ g2 a31;have a42:=uQ g2 a41;have a52:=uQ g2 a51;have a62:=uQ g2 a61;have a72:=uQ g2 a71;have a82:=uQ g2 a81;have a92:=uQ g2 a91;have a102:=uQ g2 a101;have a112:=uQ g2 a111;have r02:=uQ g2 r01;have r12:=uQ g2 r11;have z02:=(aA.frozen g2 (p:=_) (World.block_lt_of_cell? _ _ r01)).trans z01;have z12:=(aA.frozen g2 (p:=_) (World.block_lt_of_cell? _ _ r11)).trans z11;clear g2 hbb)|(go_at_call 99;refine(KE.out _ G2.out).mono ?_;rintro e w3 ⟨E,bv3,rfl,hEd,g3⟩;have HEd:=uZ hEd;have HG3:=uZ g3;have G3:=uZ (G2.out.trans g3);have b03:=uQ g3 b02;have b13:=uQ g3 b12;have a03:=uQ g3 a02;have a13:=uQ g3 a12;have a23:=uQ g3 a22;have a33:=uQ g3 a32;have a43:=uQ g3 a42;have a53:=uQ g3 a52;have a63:=uQ g3 a62;have a73:=uQ g3 a72;have a83:=uQ g3 a82;have a93:=uQ g3 a92;have a103:=uQ g3 a102;have a113:=uQ g3 a112;have r03:=uQ g3 r02;have r13:=uQ g3 r12;have z03:=(aA.frozen g3 (p:=_) (World.block_lt_of_cell? _ _ r02)).trans z02;have z13:=(aA.frozen g3 (p:=_) (World.block_lt_of_cell? _ _ r12)).trans z12;clear g3 hEd)|((first|go_at_call 92|go_at_call 93|go_at_call 94|go_at_call 95|go_at_call 96);refine(KD.out _ _ _ _ HEd.out HG3.out (HE.out.mono G2.out)).mono ?_;rintro e w4 ⟨rfl,g24,hT⟩;have HT:=uZ hT;have g4:=uZ (show aA w2 w4 from g24);have G4:=uZ (G2.out.trans g24);have b04:=uQ g4.out b02;have b14:=uQ g4.out b12;have a04:=uQ g4.out a02;have a14:=uQ g4.out a12;have a24:=uQ g4.out a22;have a34:=uQ g4.out a32;have a44:=uQ g4.out a42;have a54:=uQ g4.out a52;have a64:=uQ g4.out a62;have a74:=uQ g4.out a72;have a84:=uQ g4.out a82;have a94:=uQ g4.out a92;have a104:=uQ g4.out a102;have a114:=uQ g4.out a112;have r04:=uQ g4.out r02;have r14:=uQ g4.out r12;have z04:=(aA.frozen g4.out (p:=_) (World.block_lt_of_cell? _ _ r02)).trans z02;have z14:=(aA.frozen g4.out (p:=_) (World.block_lt_of_cell? _ _ r12)).trans z12;clear g24 hT))
 obtain⟨q0f,q1f⟩:=aK (v0:=(.slice none 0 0)) (v1:=(.slice none 0 0)) r04 r14;refine bodyPost_ret (v:=.tuple #[.agg #[(.slice none 0 0),(.slice none 0 0)],.int .i64 n]) b_31 rfl ?_;exact bU.none (by repeat (first|exact G4.out|refine yZ ?_ b_36 _))
):p:=h
theorem h_161 {p:Prop} (h:p:=by
 exact(aA.frozen hgV (p:=_) (World.block_lt_of_cell? _ _ r0W)).trans z0W
):p:=h
theorem h_162 {p:Prop} (h:p:=by
 exact(aA.frozen hgV (p:=_) (World.block_lt_of_cell? _ _ r1W)).trans z1W
):p:=h
theorem h_230 {p:Prop} (h:p:=by
 exact uZ (GW.out.trans hgV)
):p:=h
theorem h_233 {p:Prop} (h:p:=by
 exact uZ (uK hgV HPW.out)
):p:=h
theorem s_2 {p:Prop} (h:p:=by
 obtain⟨V1,V2,V3,V4,V5,e1,e2,e3,e4,e5,hown,hgV⟩:=dQ W3;obtain⟨v,el,ps,hfn⟩:=dR hown hkw;rw[hs3] at e1 e2 e3 e4 e5 el;have GV:=h_230;have b0V:=uQ hgV b0W;have b1V:=uQ hgV b1W;have a0V:=uQ hgV a0W;have a1V:=uQ hgV a1W;have a2V:=uQ hgV a2W;have a3V:=uQ hgV a3W;have a4V:=uQ hgV a4W;have a5V:=uQ hgV a5W;have a6V:=uQ hgV a6W;have a7V:=uQ hgV a7W;have a8V:=uQ hgV a8W;have a9V:=uQ hgV a9W;have a10V:=uQ hgV a10W;have a11V:=uQ hgV a11W;have r0V:=uQ hgV r0W;have r1V:=uQ hgV r1W;have z0V:=h_161;have z1V:=h_162;have HPV:=h_233;clear b0W b1W a0W a1W a2W a3W a4W a5W a6W a7W a8W a9W a10W a11W r0W r1W z0W z1W HPW GW hown;rw[run_makeMap];exact nX.g
):p:=h
theorem s_14 {p:Prop} (h:p:=by
 go_enter Tryz.func67,Tryz.ntmps67;go_wp2_with fail;generalize (((w.alloc (.cells [.slice Ar t.roots.length cr,.slice Ab t.brs.length cb].toArray 43)).alloc (.cells [.int .i64 i,.int .i64 d,.int .i64 k,.int .i64 u,.int .i64 p,.int .i64 b,.int .i64 l,.string tt,.string m,.int .i64 x9,.int .i64 x10,.int .i64 x11].toArray 26)).alloc (.cells [.slice none 0 0,.slice none 0 0].toArray 43))=W3 at b0W b1W a0W a1W a2W a3W a4W a5W a6W a7W a8W a9W a10W a11W r0W r1W z0W z1W HPW GW hs3 ⊢;exact nX.g
):p:=h
theorem s_51 {p:Prop} (h:p:=by
 go_enter Tryz.func67,Tryz.ntmps67;go_wp2_with fail;generalize (((w.alloc (.cells [.slice Ar t.roots.length cr,.slice Ab t.brs.length cb].toArray 43)).alloc (.cells [.int .i64 i,.int .i64 d,.int .i64 1,.int .i64 u,.int .i64 p,.int .i64 b,.int .i64 l,.string tt,.string m,.int .i64 x9,.int .i64 x10,.int .i64 x11].toArray 26)).alloc (.cells [.slice none 0 0,.slice none 0 0].toArray 43))=W3 at b0W b1W a0W a1W a2W a3W a4W a5W a6W a7W a8W a9W a10W a11W r0W r1W z0W z1W HPW GW hs3 ⊢;exact nX.g
):p:=h
theorem s_52 {p:Prop} (h:p:=by
 go_enter Tryz.func67,Tryz.ntmps67;go_wp2_with fail;generalize (((w.alloc (.cells [.slice Ar t.roots.length cr,.slice Ab t.brs.length cb].toArray 43)).alloc (.cells [.int .i64 i,.int .i64 d,.int .i64 2,.int .i64 u,.int .i64 p,.int .i64 b,.int .i64 l,.string tt,.string m,.int .i64 x9,.int .i64 x10,.int .i64 x11].toArray 26)).alloc (.cells [.slice none 0 0,.slice none 0 0].toArray 43))=W3 at b0W b1W a0W a1W a2W a3W a4W a5W a6W a7W a8W a9W a10W a11W r0W r1W z0W z1W HPW GW hs3 ⊢;exact nX.g
):p:=h
theorem s_53 {p:Prop} (h:p:=by
 go_enter Tryz.func67,Tryz.ntmps67;go_wp2_with fail;generalize (((w.alloc (.cells [.slice Ar t.roots.length cr,.slice Ab t.brs.length cb].toArray 43)).alloc (.cells [.int .i64 i,.int .i64 d,.int .i64 3,.int .i64 u,.int .i64 p,.int .i64 b,.int .i64 l,.string tt,.string m,.int .i64 x9,.int .i64 x10,.int .i64 x11].toArray 26)).alloc (.cells [.slice none 0 0,.slice none 0 0].toArray 43))=W3 at b0W b1W a0W a1W a2W a3W a4W a5W a6W a7W a8W a9W a10W a11W r0W r1W z0W z1W HPW GW hs3 ⊢;exact nX.g
):p:=h
theorem s_54 {p:Prop} (h:p:=by
 go_enter Tryz.func67,Tryz.ntmps67;go_wp2_with fail;generalize (((w.alloc (.cells [.slice Ar t.roots.length cr,.slice Ab t.brs.length cb].toArray 43)).alloc (.cells [.int .i64 i,.int .i64 d,.int .i64 4,.int .i64 u,.int .i64 p,.int .i64 b,.int .i64 l,.string tt,.string m,.int .i64 x9,.int .i64 x10,.int .i64 x11].toArray 26)).alloc (.cells [.slice none 0 0,.slice none 0 0].toArray 43))=W3 at b0W b1W a0W a1W a2W a3W a4W a5W a6W a7W a8W a9W a10W a11W r0W r1W z0W z1W HPW GW hs3 ⊢;exact nX.g
):p:=h
theorem s_55 {p:Prop} (h:p:=by
 go_enter Tryz.func67,Tryz.ntmps67;go_wp2_with fail;generalize (((w.alloc (.cells [.slice Ar t.roots.length cr,.slice Ab t.brs.length cb].toArray 43)).alloc (.cells [.int .i64 i,.int .i64 d,.int .i64 5,.int .i64 u,.int .i64 p,.int .i64 b,.int .i64 l,.string tt,.string m,.int .i64 x9,.int .i64 x10,.int .i64 x11].toArray 26)).alloc (.cells [.slice none 0 0,.slice none 0 0].toArray 43))=W3 at b0W b1W a0W a1W a2W a3W a4W a5W a6W a7W a8W a9W a10W a11W r0W r1W z0W z1W HPW GW hs3 ⊢;exact nX.g
):p:=h
def bU (R:Tr × Int) (w:World) (e:Ending) (w':World):Prop:=∃ rv bv,e=.returned (.tuple #[.agg #[rv,bv],.int .i64 R.2])∧dF w' rv bv R.1∧aA w w'
theorem aPn (w:World):bQ w (.slice none 0 0) []:=⟨[],SlB.nil w,rfl,fun _ h=>absurd h (Nat.not_lt_zero _)⟩
theorem bU.none {w w':World} {n:Int} (g:aA w w'):bU (⟨[],[]⟩,n) w (.returned (.tuple #[.agg #[.slice none 0 0,.slice none 0 0],.int .i64 n])) w':=⟨_,_,rfl,⟨SlI.nil _,aPn _⟩,g⟩
theorem Ed.setOther {base E P j:Nat} {rv bv u:Value} {cs:List BrC} {t:Tr} {w:World} {cur:Array Value} (h:Ed base E rv bv cs t w) (hP:w.heap[P]? = some (.cells cur 43 (0,0))):Ed base E rv bv cs t (w.setCell ⟨P,j,none⟩ u) where
 le:=h.le
 box:=cG _ _ h.box (fun e=>by
  rw[e] at h;have hb:=h.box;rw[hP] at hb;injection hb with hb;injection hb with _ hb _
  exact absurd hb b_52)
 roots:=ownsRow_setCell_other h.roots (cR h.roots hP xA) _
 brs:=ownsRow_setCell_other h.brs (cR h.brs hP oH) _
 len:=h.len
 each:=fun i hi hi'=>⟨(h.each i hi hi').1,ownsRow_setCell_other (h.each i hi hi').2 (cR (h.each i hi hi').2 hP xA) _⟩
 apart:=h.apart
theorem aK {W:World} {P:Nat} {v0 v1 x0 x1:Value} (h0:W.cell? ⟨P,0,none⟩=some x0) (h1:W.cell? ⟨P,1,none⟩=some x1):((W.setCell ⟨P,0,none⟩ v0).setCell ⟨P,1,none⟩ v1).cell? ⟨P,0,none⟩=some v0∧((W.setCell ⟨P,0,none⟩ v0).setCell ⟨P,1,none⟩ v1).cell? ⟨P,1,none⟩=some v1:=by
 refine⟨?_,World.cell?_setCell_same' _ _ _ (by rw[uV _ _ _ _ b_54,h1];rfl)⟩;rw[uV _ _ _ _ b_54];exact World.cell?_setCell_same' _ _ _ (by rw[h0];rfl)
theorem mM {w w2 w4:World} {E P:Nat} {rv bv:Value} {cs:List BrC} {R:Tr} {c:Array Value} (h:Ed w2.heap.size E rv bv cs R w4) (hP:w4.heap[P]? = some (.cells c 43 (0,0))) (hlo:w.heap.size≤P) (hG:aA w w4) :
  bU (R,0) w (.returned (.tuple #[.agg #[rv,bv],.int .i64 0])) ((w4.setCell ⟨P,0,none⟩ rv).setCell ⟨P,1,none⟩ bv):=by
 have hP2:=heap_setCell_same w4 P 0 c 43 rv hP;have h2:=(h.setOther (j:=0) (u:=rv) hP).setOther (j:=1) (u:=bv) hP2;exact⟨rv,bv,rfl,h2.tree,(hG.setCell hlo _).setCell hlo _⟩
theorem aIr (t:Tr) (o:Opn) (h:(aT t o).2≠0):(aT t o).1=⟨[],[]⟩:=by
 unfold aT at h ⊢;split
 ·rfl
 ·rename_i h1
  rw[if_neg h1] at h;split
  ·rfl
  ·rename_i h2
   rw[if_neg h2] at h;split
   ·rename_i h3
    rw[if_pos h3] at h;exact absurd rfl h
   ·rfl
def zBa:=Unit
theorem zBa.g {p:Prop} (_:zBa) (h:p:=by
 rw[hno] at el;go_wp2_with fail;obtain⟨q0f,q1f⟩:=aK (v0:=(.slice none 0 0)) (v1:=(.slice none 0 0)) r0V r1V;refine bodyPost_ret (v:=.tuple #[.agg #[(.slice none 0 0),(.slice none 0 0)],.int .i64 1]) b_31 rfl ?_;exact bU.none (by repeat (first|exact GV.out|refine yZ ?_ b_36 _))
):p:=h
def zBb:=Unit
theorem zBb.g {p:Prop} (_:zBb) (h:p:=by
 rw[hyes] at el;go_wp2_with (go_at_call 97;refine(KF.out _ GV.out).mono ?_;rintro e w1 ⟨rfl,g1⟩;have G1:=uZ (GV.out.trans g1);have b01:=uQ g1 b0V;have b11:=uQ g1 b1V;have a01:=uQ g1 a0V;have a11:=uQ g1 a1V;have a21:=uQ g1 a2V;have a31:=uQ g1 a3V;have a41:=uQ g1 a4V;have a51:=uQ g1 a5V;have a61:=uQ g1 a6V;have a71:=uQ g1 a7V;have a81:=uQ g1 a8V;have a91:=uQ g1 a9V;have a101:=uQ g1 a10V;have a111:=uQ g1 a11V;have r01:=uQ g1 r0V;have r11:=uQ g1 r1V;have z01:=(aA.frozen g1 (p:=_) (World.block_lt_of_cell? _ _ r0V)).trans z0V;have z11:=(aA.frozen g1 (p:=_) (World.block_lt_of_cell? _ _ r1V)).trans z1V;clear g1)
 obtain⟨q0f,q1f⟩:=aK (v0:=(.slice none 0 0)) (v1:=(.slice none 0 0)) r01 r11;refine bodyPost_ret (v:=.tuple #[.agg #[(.slice none 0 0),(.slice none 0 0)],.int .i64 1]) b_31 rfl ?_;exact bU.none (by repeat (first|exact G1.out|refine yZ ?_ b_36 _))
):p:=h
def zBc:=Unit
theorem zBc.g {p:Prop} (_:zBc) (h:p:=by
 rw[hyes] at el;go_wp2_with (first|(go_at_call 97;refine(KF.out _ GV.out).mono ?_;rintro e w1 ⟨rfl,g1⟩;have G1:=uZ (GV.out.trans g1);have b01:=uQ g1 b0V;have b11:=uQ g1 b1V;have a01:=uQ g1 a0V;have a11:=uQ g1 a1V;have a21:=uQ g1 a2V;have a31:=uQ g1 a3V;have a41:=uQ g1 a4V;have a51:=uQ g1 a5V;have a61:=uQ g1 a6V;have a71:=uQ g1 a7V;have a81:=uQ g1 a8V;have a91:=uQ g1 a9V;have a101:=uQ g1 a10V;have a111:=uQ g1 a11V;have r01:=uQ g1 r0V;have r11:=uQ g1 r1V;have z01:=(aA.frozen g1 (p:=_) (World.block_lt_of_cell? _ _ r0V)).trans z0V;have z11:=(aA.frozen g1 (p:=_) (World.block_lt_of_cell? _ _ r1V)).trans z1V;clear g1)|(go_at_call 98;refine(KR.out _ G1.out).mono ?_;rintro e w2 ⟨bb,rfl,hbb,g2⟩;have hq:=HRR.out bb hbb;subst hq;have G2:=uZ (G1.out.trans g2);have b02:=uQ g2 b01;have b12:=uQ g2 b11;have a02:=uQ g2 a01;have a12:=uQ g2 a11;have a22:=uQ g2 a21;have a32:=uQ g2 a31;have a42:=uQ g2 a41;have a52:=uQ g2 a51;have a62:=uQ g2 a61;have a72:=uQ g2 a71;have a82:=uQ g2 a81;have a92:=uQ g2 a91;have a102:=uQ g2 a101;have a112:=uQ g2 a111;have r02:=uQ g2 r01;have r12:=uQ g2 r11;have z02:=(aA.frozen g2 (p:=_) (World.block_lt_of_cell? _ _ r01)).trans z01;have z12:=(aA.frozen g2 (p:=_) (World.block_lt_of_cell? _ _ r11)).trans z11;clear g2 hbb))
 obtain⟨q0f,q1f⟩:=aK (v0:=(.slice none 0 0)) (v1:=(.slice none 0 0)) r02 r12;refine bodyPost_ret (v:=.tuple #[.agg #[(.slice none 0 0),(.slice none 0 0)],.int .i64 1]) b_31 rfl ?_;exact bU.none (by repeat (first|exact G2.out|refine yZ ?_ b_36 _))
):p:=h
def zBd:=Unit
theorem zBd.g {p:Prop} (_:zBd) (h:p:=by
 rw[hyes] at el;rw[aDc.2] at hfn;exact c_14
):p:=h
def zBe:=Unit
theorem zBe.g {p:Prop} (_:zBe) (h:p:=by
 rw[hyes] at el;rw[aDc.2] at hfn;exact c_16
):p:=h
def zBf:=Unit
theorem zBf.g {p:Prop} (_:zBf) (h:p:=by
 rw[hyes] at el;rw[aDb.2] at hfn;exact c_14
):p:=h
def zBg:=Unit
theorem zBg.g {p:Prop} (_:zBg) (h:p:=by
 rw[hyes] at el;rw[aDb.2] at hfn;exact c_16
):p:=h
def zBh:=Unit
theorem zBh.g {p:Prop} (_:zBh) (h:p:=by
 rw[hyes] at el;rw[aDa.2] at hfn;exact c_14
):p:=h
def zBi:=Unit
theorem zBi.g {p:Prop} (_:zBi) (h:p:=by
 rw[hyes] at el;rw[aDa.2] at hfn;exact c_16
):p:=h
def zBj:=Unit
theorem zBj.g {p:Prop} (_:zBj) (h:p:=by
 rw[hyes] at el;rw[aCz.2] at hfn;exact c_14
):p:=h
def zBk:=Unit
theorem zBk.g {p:Prop} (_:zBk) (h:p:=by
 rw[hyes] at el;rw[aCz.2] at hfn;exact c_16
):p:=h
def zBl:=Unit
theorem zBl.g {p:Prop} (_:zBl) (h:p:=by
 rw[hyes] at el;rw[aCy.2] at hfn;exact c_14
):p:=h
def zBm:=Unit
theorem zBm.g {p:Prop} (_:zBm) (h:p:=by
 rw[hyes] at el;rw[aCy.2] at hfn;exact c_16
):p:=h
def zEn:=Unit
theorem zEn.g {p:Prop} (_:zEn) (h:p:=by
 have nX:zBa:=()
 exact s_2
):p:=h
def zEo:=Unit
theorem zEo.g {p:Prop} (_:zEo) (h:p:=by
 have nX:zBb:=()
 exact s_2
):p:=h
def zEp:=Unit
theorem zEp.g {p:Prop} (_:zEp) (h:p:=by
 have nX:zBc:=()
 exact s_2
):p:=h
def zH1:=Unit
theorem zH1.g {p:Prop} (_:zH1) (h:p:=by
 have nX:zBd:=()
 exact s_2
):p:=h
def zH2:=Unit
theorem zH2.g {p:Prop} (_:zH2) (h:p:=by
 have nX:zBe:=()
 exact s_2
):p:=h
def zH3:=Unit
theorem zH3.g {p:Prop} (_:zH3) (h:p:=by
 have nX:zBf:=()
 exact s_2
):p:=h
def zH4:=Unit
theorem zH4.g {p:Prop} (_:zH4) (h:p:=by
 have nX:zBg:=()
 exact s_2
):p:=h
def zH5:=Unit
theorem zH5.g {p:Prop} (_:zH5) (h:p:=by
 have nX:zBh:=()
 exact s_2
):p:=h
def zH6:=Unit
theorem zH6.g {p:Prop} (_:zH6) (h:p:=by
 have nX:zBi:=()
 exact s_2
):p:=h
def zH7:=Unit
theorem zH7.g {p:Prop} (_:zH7) (h:p:=by
 have nX:zBj:=()
 exact s_2
):p:=h
def zH8:=Unit
theorem zH8.g {p:Prop} (_:zH8) (h:p:=by
 have nX:zBk:=()
 exact s_2
):p:=h
def zH9:=Unit
theorem zH9.g {p:Prop} (_:zH9) (h:p:=by
 have nX:zBl:=()
 exact s_2
):p:=h
def zIa:=Unit
theorem zIa.g {p:Prop} (_:zIa) (h:p:=by
 have nX:zBm:=()
 exact s_2
):p:=h
theorem aTe (t:Tr) (o:Opn) (rv bv:Value) (w:World) (hE:Env w) (hr:SlI w rv t.roots) (hv:bQ w bv t.brs) (hf:cF t.brs) (hrl:t.roots.length≤1000000) (hkw:(Lit.int .i64 o.kind).wf=true) :
  Calls Tryz.prog 67 #[.agg #[rv,bv],o.agg] w (bU (aT t o) w):=by
 have HE:=uZ hE;have KR:=uZ (fun W (hW:aA w W)=>bAc t.roots t.brs rv bv W (hE.mono hW) (hr.mono hW) (hv.mono hW) hf hrl);have KE:=uZ (fun W (hW:aA w W)=>bCk t rv bv W (hr.mono hW) (hv.mono hW) hf hrl);have kF:=fun W (hW:aA w W)=>aMz o W (hE.mono hW)
 have k1:=fun w0 E bv w (h:EdB w0.heap.size E bv t w) hG hEnv hR hf hk=>do1 (o:=o) (w0:=w0) h hG hEnv hR hf hk
 have k2:=fun w0 E bv w (h:EdB w0.heap.size E bv t w) hG hEnv hR hf hk=>do2 (o:=o) (w0:=w0) h hG hEnv hR hf hk
 have k3:=fun w0 E bv w (h:EdB w0.heap.size E bv t w) hG hR hf hk=>do3 (o:=o) (w0:=w0) h hG hR hf hk
 have k4:=fun w0 E bv w (h:EdB w0.heap.size E bv t w) hG hR hf hk=>do4 (o:=o) (w0:=w0) h hG hR hf hk
 have k5:=fun w0 E bv w (h:EdB w0.heap.size E bv t w) hG hR hf hk=>do5 (o:=o) (w0:=w0) h hG hR hf hk
 have hoff:=aIq (t:=t) (o:=o);have herr:=aIr t o;generalize aT t o=RES at k1 k2 k3 k4 k5 hoff herr ⊢;obtain⟨RT,n⟩:=RES;dsimp only at herr;have HERR:=uZ herr;clear herr;obtain⟨Ar,cr,rfl,-⟩:=hr.open_;obtain⟨Ab,cb,rfl,-⟩:=hv.open_;clear hr hv hf hrl hE;obtain⟨i,d,k,u,p,b,l,tt,m,x9,x10,x11⟩:=o;dsimp only at hkw k1 k2 k3 k4 k5 hoff;have HK1:=uZ k1;have HK2:=uZ k2;have HK3:=uZ k3;have HK4:=uZ k4;have HK5:=uZ k5;have HOFF:=uZ hoff;clear k1 k2 k3 k4 k5 hoff;generalize hFF:aP ⟨i,d,k,u,p,b,l,tt,m,x9,x10,x11⟩=FF at kF HOFF;have HFF:=uZ hFF;unfold Opn.agg at kF HK1 HK2 HK3 HK4 HK5 ⊢;dsimp only at kF HK1 HK2 HK3 HK4 HK5 ⊢;have KF:=uZ kF;clear kF hFF
 obtain⟨RR,hRR⟩:∃ RR:Bool,RR=true↔aM t:=by
  by_cases h:aM t
  ·exact⟨true,⟨fun _=>h,fun _=>rfl⟩⟩
  ·exact⟨false,⟨(fun h2=>by cases h2),fun h2=>absurd h2 h⟩⟩
 have HRI:=uZ hRR
 have HRR:=uZ (fun(bb:Bool) (hbb:bb=true↔aM ⟨t.roots,t.brs⟩)=>show bb=RR from by
  have:(bb=true↔RR=true):=hbb.trans hRR.symm
  cases bb<;>cases RR<;>simp_all)
 clear hRR;have hs1:(w.alloc (.cells [.slice Ar t.roots.length cr,.slice Ab t.brs.length cb].toArray 43)).heap.size=w.heap.size+1:=bC _ _;have hs2:((w.alloc (.cells [.slice Ar t.roots.length cr,.slice Ab t.brs.length cb].toArray 43)).alloc (.cells [.int .i64 i,.int .i64 d,.int .i64 k,.int .i64 u,.int .i64 p,.int .i64 b,.int .i64 l,.string tt,.string m,.int .i64 x9,.int .i64 x10,.int .i64 x11].toArray 26)).heap.size=w.heap.size+1+1:=by rw[bC,hs1]
 have hs3:(((w.alloc (.cells [.slice Ar t.roots.length cr,.slice Ab t.brs.length cb].toArray 43)).alloc (.cells [.int .i64 i,.int .i64 d,.int .i64 k,.int .i64 u,.int .i64 p,.int .i64 b,.int .i64 l,.string tt,.string m,.int .i64 x9,.int .i64 x10,.int .i64 x11].toArray 26)).alloc (.cells [.slice none 0 0,.slice none 0 0].toArray 43)).heap.size=w.heap.size+1+1+1:=by rw[bC,hs2]
 have b0W:=yQ (w:=w) (show aA (w.alloc (.cells [.slice Ar t.roots.length cr,.slice Ab t.brs.length cb].toArray 43)) (((w.alloc (.cells [.slice Ar t.roots.length cr,.slice Ab t.brs.length cb].toArray 43)).alloc (.cells [.int .i64 i,.int .i64 d,.int .i64 k,.int .i64 u,.int .i64 p,.int .i64 b,.int .i64 l,.string tt,.string m,.int .i64 x9,.int .i64 x10,.int .i64 x11].toArray 26)).alloc (.cells [.slice none 0 0,.slice none 0 0].toArray 43)) from((uX _).alloc _).alloc _) 0 _ rfl;have b1W:=yQ (w:=w) (show aA (w.alloc (.cells [.slice Ar t.roots.length cr,.slice Ab t.brs.length cb].toArray 43)) (((w.alloc (.cells [.slice Ar t.roots.length cr,.slice Ab t.brs.length cb].toArray 43)).alloc (.cells [.int .i64 i,.int .i64 d,.int .i64 k,.int .i64 u,.int .i64 p,.int .i64 b,.int .i64 l,.string tt,.string m,.int .i64 x9,.int .i64 x10,.int .i64 x11].toArray 26)).alloc (.cells [.slice none 0 0,.slice none 0 0].toArray 43)) from((uX _).alloc _).alloc _) 1 _ rfl;obtain⟨a0W,a1W,a2W,a3W,a4W,a5W,a6W,a7W,a8W,a9W,a10W,a11W⟩:=aU (w:=(w.alloc (.cells [.slice Ar t.roots.length cr,.slice Ab t.brs.length cb].toArray 43))) (t:=26) (⟨i,d,k,u,p,b,l,tt,m,x9,x10,x11⟩:Opn) (show aA ((w.alloc (.cells [.slice Ar t.roots.length cr,.slice Ab t.brs.length cb].toArray 43)).alloc (.cells [.int .i64 i,.int .i64 d,.int .i64 k,.int .i64 u,.int .i64 p,.int .i64 b,.int .i64 l,.string tt,.string m,.int .i64 x9,.int .i64 x10,.int .i64 x11].toArray 26)) (((w.alloc (.cells [.slice Ar t.roots.length cr,.slice Ab t.brs.length cb].toArray 43)).alloc (.cells [.int .i64 i,.int .i64 d,.int .i64 k,.int .i64 u,.int .i64 p,.int .i64 b,.int .i64 l,.string tt,.string m,.int .i64 x9,.int .i64 x10,.int .i64 x11].toArray 26)).alloc (.cells [.slice none 0 0,.slice none 0 0].toArray 43)) from(uX _).alloc _);dsimp only at a0W a1W a2W a3W a4W a5W a6W a7W a8W a9W a10W a11W;rw[hs1] at a0W a1W a2W a3W a4W a5W a6W a7W a8W a9W a10W a11W;have r0W:=yQ (w:=((w.alloc (.cells [.slice Ar t.roots.length cr,.slice Ab t.brs.length cb].toArray 43)).alloc (.cells [.int .i64 i,.int .i64 d,.int .i64 k,.int .i64 u,.int .i64 p,.int .i64 b,.int .i64 l,.string tt,.string m,.int .i64 x9,.int .i64 x10,.int .i64 x11].toArray 26))) (uX (((w.alloc (.cells [.slice Ar t.roots.length cr,.slice Ab t.brs.length cb].toArray 43)).alloc (.cells [.int .i64 i,.int .i64 d,.int .i64 k,.int .i64 u,.int .i64 p,.int .i64 b,.int .i64 l,.string tt,.string m,.int .i64 x9,.int .i64 x10,.int .i64 x11].toArray 26)).alloc (.cells [.slice none 0 0,.slice none 0 0].toArray 43))) 0 _ rfl;have r1W:=yQ (w:=((w.alloc (.cells [.slice Ar t.roots.length cr,.slice Ab t.brs.length cb].toArray 43)).alloc (.cells [.int .i64 i,.int .i64 d,.int .i64 k,.int .i64 u,.int .i64 p,.int .i64 b,.int .i64 l,.string tt,.string m,.int .i64 x9,.int .i64 x10,.int .i64 x11].toArray 26))) (uX (((w.alloc (.cells [.slice Ar t.roots.length cr,.slice Ab t.brs.length cb].toArray 43)).alloc (.cells [.int .i64 i,.int .i64 d,.int .i64 k,.int .i64 u,.int .i64 p,.int .i64 b,.int .i64 l,.string tt,.string m,.int .i64 x9,.int .i64 x10,.int .i64 x11].toArray 26)).alloc (.cells [.slice none 0 0,.slice none 0 0].toArray 43))) 1 _ rfl;have z0W:=cI (w:=((w.alloc (.cells [.slice Ar t.roots.length cr,.slice Ab t.brs.length cb].toArray 43)).alloc (.cells [.int .i64 i,.int .i64 d,.int .i64 k,.int .i64 u,.int .i64 p,.int .i64 b,.int .i64 l,.string tt,.string m,.int .i64 x9,.int .i64 x10,.int .i64 x11].toArray 26))) (uX (((w.alloc (.cells [.slice Ar t.roots.length cr,.slice Ab t.brs.length cb].toArray 43)).alloc (.cells [.int .i64 i,.int .i64 d,.int .i64 k,.int .i64 u,.int .i64 p,.int .i64 b,.int .i64 l,.string tt,.string m,.int .i64 x9,.int .i64 x10,.int .i64 x11].toArray 26)).alloc (.cells [.slice none 0 0,.slice none 0 0].toArray 43))) 0;have z1W:=cI (w:=((w.alloc (.cells [.slice Ar t.roots.length cr,.slice Ab t.brs.length cb].toArray 43)).alloc (.cells [.int .i64 i,.int .i64 d,.int .i64 k,.int .i64 u,.int .i64 p,.int .i64 b,.int .i64 l,.string tt,.string m,.int .i64 x9,.int .i64 x10,.int .i64 x11].toArray 26))) (uX (((w.alloc (.cells [.slice Ar t.roots.length cr,.slice Ab t.brs.length cb].toArray 43)).alloc (.cells [.int .i64 i,.int .i64 d,.int .i64 k,.int .i64 u,.int .i64 p,.int .i64 b,.int .i64 l,.string tt,.string m,.int .i64 x9,.int .i64 x10,.int .i64 x11].toArray 26)).alloc (.cells [.slice none 0 0,.slice none 0 0].toArray 43))) 1;have HPW:=uZ (show(((w.alloc (.cells [.slice Ar t.roots.length cr,.slice Ab t.brs.length cb].toArray 43)).alloc (.cells [.int .i64 i,.int .i64 d,.int .i64 k,.int .i64 u,.int .i64 p,.int .i64 b,.int .i64 l,.string tt,.string m,.int .i64 x9,.int .i64 x10,.int .i64 x11].toArray 26)).alloc (.cells [.slice none 0 0,.slice none 0 0].toArray 43)).heap[((w.alloc (.cells [.slice Ar t.roots.length cr,.slice Ab t.brs.length cb].toArray 43)).alloc (.cells [.int .i64 i,.int .i64 d,.int .i64 k,.int .i64 u,.int .i64 p,.int .i64 b,.int .i64 l,.string tt,.string m,.int .i64 x9,.int .i64 x10,.int .i64 x11].toArray 26)).heap.size]? = some (.cells [.slice none 0 0,.slice none 0 0].toArray 43 (0,0)) from aF rfl);rw[hs2] at r0W r1W z0W z1W HPW;have GW:=uZ (show aA w (((w.alloc (.cells [.slice Ar t.roots.length cr,.slice Ab t.brs.length cb].toArray 43)).alloc (.cells [.int .i64 i,.int .i64 d,.int .i64 k,.int .i64 u,.int .i64 p,.int .i64 b,.int .i64 l,.string tt,.string m,.int .i64 x9,.int .i64 x10,.int .i64 x11].toArray 26)).alloc (.cells [.slice none 0 0,.slice none 0 0].toArray 43)) from(((uX w).alloc _).alloc _).alloc _);clear hs1 hs2;by_cases h15:¬ (k=1∨k=2∨k=3∨k=4∨k=5)
 ·have hno:=aQz (k:=k) (fun h=>h15 (.inl h)) (fun h=>h15 (.inr (.inl h))) (fun h=>h15 (.inr (.inr (.inl h)))) (fun h=>h15 (.inr (.inr (.inr (.inl h))))) (fun h=>h15 (.inr (.inr (.inr (.inr h)))))
  obtain⟨rfl,rfl⟩:RT=⟨[],[]⟩∧n=1:=by
   have h:RT=(⟨[],[]⟩:Tr)∧n=1:=by
    have:=HOFF.out (by
     by_cases h6:k=6
     ·exact .inr (.inr h6)
     ·refine .inr (.inl ?_)
      rw[← HFF.out];unfold aP pB;dsimp only;simp only [not_or] at h15;rw[if_neg h15.1,if_neg h15.2.1,if_neg h15.2.2.1,if_neg h15.2.2.2.1,if_neg (by rintro (h|h);exact h15.2.2.2.2 h;exact h6 h)]
      simp)
    simpa using this
   exact h
  have nX:zEn:=()
  exact s_14
 have hyes:Maps.has gU (.int .i64 k)=true:=by
  rcases Classical.not_not.1 h15 with rfl|rfl|rfl|rfl|rfl
  ·exact aDc.1
  ·exact aDb.1
  ·exact aDa.1
  ·exact aCz.1
  ·exact aCy.1
 cases FF with
 | false =>
  obtain⟨rfl,rfl⟩:RT=⟨[],[]⟩∧n=1:=by simpa using HOFF.out (.inr (.inl rfl))
  have nX:zEo:=()
  exact s_14
 | true =>
 cases RR with
 | false =>
  obtain⟨rfl,rfl⟩:RT=⟨[],[]⟩∧n=1:=by simpa using HOFF.out (.inl fun h=>by have:=HRI.out.2 h;cases this)
  have nX:zEp:=()
  exact s_14
 | true =>
 have HRT:=uZ (HRI.out.1 rfl);rcases Classical.not_not.1 h15 with rfl|rfl|rfl|rfl|rfl
 ·have KD:=uZ (fun(w0:World) (E:Nat) (bv:Value) (w:World) (h:EdB w0.heap.size E bv t w) (hG:aA w0 w) (hEnv:Env w0)=>HK1.out w0 E bv w h hG hEnv HRT.out HFF.out rfl)
  clear HK1 HK2 HK3 HK4 HK5 HOFF HRI HRT HFF;by_cases hn:n=0
  ·subst hn
   have nX:zH1:=()
   exact s_51
  ·have hn2:(n != 0)=true:=by simpa using hn
   obtain rfl:=HERR.out hn;have nX:zH2:=()
   exact s_51
 ·have KD:=uZ (fun(w0:World) (E:Nat) (bv:Value) (w:World) (h:EdB w0.heap.size E bv t w) (hG:aA w0 w) (hEnv:Env w0)=>HK2.out w0 E bv w h hG hEnv HRT.out HFF.out rfl)
  clear HK1 HK2 HK3 HK4 HK5 HOFF HRI HRT HFF;by_cases hn:n=0
  ·subst hn
   have nX:zH3:=()
   exact s_52
  ·have hn2:(n != 0)=true:=by simpa using hn
   obtain rfl:=HERR.out hn;have nX:zH4:=()
   exact s_52
 ·have KD:=uZ (fun(w0:World) (E:Nat) (bv:Value) (w:World) (h:EdB w0.heap.size E bv t w) (hG:aA w0 w) (_:Env w0)=>HK3.out w0 E bv w h hG HRT.out HFF.out rfl)
  clear HK1 HK2 HK3 HK4 HK5 HOFF HRI HRT HFF;by_cases hn:n=0
  ·subst hn
   have nX:zH5:=()
   exact s_53
  ·have hn2:(n != 0)=true:=by simpa using hn
   obtain rfl:=HERR.out hn;have nX:zH6:=()
   exact s_53
 ·have KD:=uZ (fun(w0:World) (E:Nat) (bv:Value) (w:World) (h:EdB w0.heap.size E bv t w) (hG:aA w0 w) (_:Env w0)=>HK4.out w0 E bv w h hG HRT.out HFF.out rfl)
  clear HK1 HK2 HK3 HK4 HK5 HOFF HRI HRT HFF;by_cases hn:n=0
  ·subst hn
   have nX:zH7:=()
   exact s_54
  ·have hn2:(n != 0)=true:=by simpa using hn
   obtain rfl:=HERR.out hn;have nX:zH8:=()
   exact s_54
 ·have KD:=uZ (fun(w0:World) (E:Nat) (bv:Value) (w:World) (h:EdB w0.heap.size E bv t w) (hG:aA w0 w) (_:Env w0)=>HK5.out w0 E bv w h hG HRT.out HFF.out rfl)
  clear HK1 HK2 HK3 HK4 HK5 HOFF HRI HRT HFF;by_cases hn:n=0
  ·subst hn
   have nX:zH9:=()
   exact s_55
  ·have hn2:(n != 0)=true:=by simpa using hn
   obtain rfl:=HERR.out hn;have nX:zIa:=()
   exact s_55
end Go.Proofs.YtdochkemaiokfaaGreat