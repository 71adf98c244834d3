/- Lemmas on what the functions of the program and of the library compute: Es9. The conditions stand at each. -/
import Derived.Test.YtdochkemaiokfaaGreatQ22
import Derived.Test.YtdochkemaiokfaaGreatQ23
import Derived.Test.YtdochkemaiokfaaGreatQ3
import Derived.Test.YtdochkemaiokfaaGreatQ7
import Derived.Test.YtdochkemaiokfaaGreatQ16
set_option maxHeartbeats 16000000
set_option maxRecDepth 100000
set_option linter.all false
namespace Go.Proofs.YtdochkemaiokfaaGreat
open Go.RowKit
theorem c_47 {p:Prop} (h:p:=by
 obtain rfl:=H5.out HNO.out HNM.out b_46 ⟨hb0,.inl rfl⟩;go_wp2_with fail;refine dD wi.W (by kernel_rfl) (by kernel_rfl) (uX _) ?_;have f5:=Gr.cell o5;have f3:=Gr.cell o3
 repeat (first|go_big_quiet_step (fail)|quiet_step (fail))
 refine wpQuiet_nil ?_;intro _ hw';obtain⟨wj,rfl⟩:=hw';clear f5 f3;have B5:=uZ (B4.out.trans wj.g);have G5:=uZ (G4.out.trans wj.g);clear o3 o4 o5;obtain⟨o3,o4,o5,-,-,-⟩:=HC.out wj.W B5.out;exact e_22
):p:=h
theorem c_55 {p:Prop} (h:p:=by
 rw[← HN6.out] at CL;clear hE9 hG9 r3 r4 r5 q3 q4 q5 CP z7 c7;dsimp only;go_wp2_with fail;refine(CL.out).mono ?_;rintro e w10 ⟨rfl,g10⟩;have HG10:=uZ g10;clear g10;dsimp only;go_wp2;go_ret;exact⟨rfl,HG9.out.trans HG10.out,fun _=>⟨bv,HE9.out.grew HG10.out⟩⟩
):p:=h
theorem c_95 {p:Prop} (h:p:=by
 obtain rfl:=H5.out HNO.out HNM.out b_46 ⟨hb0,.inr hnm⟩;exact e_22
):p:=h
theorem h_118 {p:Prop} (h:p:=by
 exact HCC.out b_12
):p:=h
theorem s_23 {p:Prop} (h:p:=by
 go_wp2_with fail;refine dD wi.W (by kernel_rfl) (by kernel_rfl) (uX _) ?_;have f5:=Gr.cell o5
 repeat (first|go_big_quiet_step (fail)|quiet_step (fail))
 refine wpQuiet_nil ?_;intro _ hw';obtain⟨wj,rfl⟩:=hw';clear f5;have B5:=uZ (B4.out.trans wj.g);have G5:=uZ (G4.out.trans wj.g);clear o3 o4 o5;obtain⟨o3,o4,o5,-,-,-⟩:=HC.out wj.W B5.out;obtain⟨hf0,hn6⟩:=H6.out HNO.out HNM.out b_46 HNB.out;have HN6:=uZ hn6;have hcan:=h_118;have HCAN:=uZ hcan;clear hf0 hn6 hcan;go_wp2_with fail;refine(KT.out _ G5.out).mono ?_;rintro e w6 ⟨rfl,hE6,hG6,hk6⟩;have q3:=hk6 _ _ o3 (Nat.le_refl _);have q4:=hk6 _ _ o4 (Nat.le_refl _);have q5:=hk6 _ _ o5 (Nat.le_refl _);exact nX.g
):p:=h
theorem aJl {t:Tr} {u:Br} {i:Nat} (hi:i<t.brs.length):∃ h:i<(jZ t u).brs.length,(jZ t u).brs[i].id=t.brs[i].id:=by
 unfold jZ;by_cases h0:u.parent=0
 ·have e:(fW t u.parent (aI u.id (aB t u.parent))).brs=t.brs:=by rw[dH,if_pos h0]
  refine⟨by rw[e];exact hi,?_⟩;simp only [e]
 ·have e:(fW t u.parent (aI u.id (aB t u.parent))).brs=t.brs.map (jD u.parent (aI u.id (aB t u.parent))):=by rw[dH,if_neg h0]
  refine⟨by rw[e,List.length_map];exact hi,?_⟩;simp only [e,List.getElem_map];unfold jD;split<;>rfl
theorem aPd (t:Tr) (u:Br):(jZ t u).brs.length=t.brs.length:=by
 unfold jZ;rw[dH];split
 ·rfl
 ·rw[List.length_map]
section
variable {w0:World} {E:Nat} {bv:Value} {t:Tr} {w:World}
theorem aRu (h:EdB w0.heap.size E bv t w) (hG:aA w0 w) (hT:TOk t) (o:Opn) (hb:aE t.brs o.unit=none) (R:Tr) :
  Calls Tryz.prog 93 #[.pointer (some ⟨E,0,none⟩),o.agg] w (aBo w0 E R 7):=by
 have HC:=h_154;have HG:=uZ hG;have KB:=h_175;obtain⟨oi,od,ok,ou,op,ob,ol,ot,om,oo,oa,on⟩:=o;unfold Opn.agg;clear h hG hT hb;dsimp only [Opn.cells] at KB HC ⊢;go_enter Tryz.func93,Tryz.ntmps93;exact c_77
def zFf:=Unit
theorem zFf.g {p:Prop} (_:zFf) (h:p:=by
 obtain⟨h7,g7,z7,v7,c7⟩:=HST.out w6 hE6 hG6 0;have r3:=(World.cell?_setCell_far w6 ⟨B,i*6+1,none⟩ _ (.int .i64 0) HBW.out).trans q3;have r4:=(World.cell?_setCell_far w6 ⟨B,i*6+1,none⟩ _ (.int .i64 0) HBW.out).trans q4;have r5:=(World.cell?_setCell_far w6 ⟨B,i*6+1,none⟩ _ (.int .i64 0) HBW.out).trans q5;have CP:=uZ (xB (o:=⟨oi,od,ok,ou,0,0,ol,ot,om,oo,oa,on⟩) HS.out HCAN.out HUP.out h7 g7);dsimp only at CP;clear o3 o4 o5 hE6 hG6 hk6 h7 g7;dsimp only;go_wp2_with fail;refine(CP.out).mono ?_;rintro e w9 ⟨rfl,hE9,hG9⟩;have HE9:=uZ hE9;have HG9:=uZ hG9;have CL:=uZ (pA (o:=⟨oi,od,ok,ou,0,0,ol,ot,om,oo,oa,on⟩) HS.out HCAN.out hE9 (HE.out.mono hG9));exact c_55
):p:=h
def zFg:=Unit
theorem zFg.g {p:Prop} (_:zFg) (h:p:=by
 obtain⟨h7,g7,z7,v7,c7⟩:=HST.out w6 hE6 hG6 op;have r3:=(World.cell?_setCell_far w6 ⟨B,i*6+1,none⟩ _ (.int .i64 op) HBW.out).trans q3;have r4:=(World.cell?_setCell_far w6 ⟨B,i*6+1,none⟩ _ (.int .i64 op) HBW.out).trans q4;have r5:=(World.cell?_setCell_far w6 ⟨B,i*6+1,none⟩ _ (.int .i64 op) HBW.out).trans q5;have CP:=uZ (xB (o:=⟨oi,od,ok,ou,op,0,ol,ot,om,oo,oa,on⟩) HS.out HCAN.out HUP.out h7 g7);dsimp only at CP;clear o3 o4 o5 hE6 hG6 hk6 h7 g7;dsimp only;go_wp2_with fail;refine(CP.out).mono ?_;rintro e w9 ⟨rfl,hE9,hG9⟩;have HE9:=uZ hE9;have HG9:=uZ hG9;have CL:=uZ (pA (o:=⟨oi,od,ok,ou,op,0,ol,ot,om,oo,oa,on⟩) HS.out HCAN.out hE9 (HE.out.mono hG9));exact c_55
):p:=h
theorem bAi (h:EdB w0.heap.size E bv t w) (hG:aA w0 w) (hEnv:Env w0) (hR:aM t) (hS:bG t) (o:Opn) (hk2:o.kind=2) {u:Br} (hb:aE t.brs o.unit=some u) :
  Calls Tryz.prog 93 #[.pointer (some ⟨E,0,none⟩),o.agg] w (aBo w0 E (jM t o u) (aIy t o u)):=by
 have hT:=jF hS;have HC:=h_154;have HG:=uZ hG;obtain⟨i,hi,ei,en⟩:=qJ hb;obtain⟨B,cap,hbv⟩:=h.at_ hi;have kb:=fun W (hW:aA w W)=>iO (h.grew hW) hT.asc hT.len hi hbv
 rw[en] at kb;have KB:=uZ kb;obtain⟨A,hA,hBr⟩:=aAn h hT o.parent;have KP:=uZ hBr;have KS:=uZ (fun hp W (hW:aA w W)=>aFx (h.grew hW) hT o.parent u.level hp);have HKA:=uZ (fun hp=>rX h hT.asc hT.len (p:=o.parent) hp);obtain⟨n,hn⟩:∃ n,aIy t o u=n:=⟨_,rfl⟩
 have H2:=uZ (fun a=>hn.symm.trans (aYo hb a));have H3:=uZ (fun a b=>hn.symm.trans (aYn hb a b));have H4:=uZ (fun a b c=>hn.symm.trans (aYm hb a b c));have H5:=uZ (fun a b c d=>hn.symm.trans (aYl hb a b c d));have H6:=uZ (fun a b c d=>(show _∧_ from⟨(aTc hb a b c d).1,hn.symm.trans (aTc hb a b c d).2⟩));obtain⟨rv,-,-,ce0,ce1,-,-⟩:=h.reads;have KW:=uZ (fun W (hW:aA w W)=>aLu (o:=o) (h.grew hW) hS hR (hEnv.mono (hG.trans hW)) hb (uQ hW ce0));have HST:=uZ (fun W h6 hg6 p=>aLt (w0:=w0) (E:=E) (bv:=bv) (t:=t) (u:=u) (W:=W) h6 hg6 hS (aJl hi).1 (by rw[aPd];exact hbv) ((aJl (u:=u) hi).2.trans (by rw[ei])) p);have hup:u.parent=0∨∃ b∈t.brs,b.id=u.parent:=gR (aHj hS (bE hb).1);have HUP:=uZ hup;have eu:=(bE hb).2
 have kt:∀ W,aA w W→Calls Tryz.prog 137 #[.pointer (some ⟨E,0,none⟩),.int .i64 o.unit] W fun e w'=>e=.returned (.tuple #[])∧EdB w0.heap.size E bv (jZ t u) w'∧aA w0 w'∧∀ p x,W.cell? p=some x→w.heap.size≤p.block→w'.cell? p=some x:=fun W hW=>by
  have:=aRr h hG W hW hT.asc hT.len hi (by rw[ei];exact hup);rw[ei] at this;rw[← eu];exact this
 have KT:=uZ kt;have HCC:=uZ (fun h0=>aSa hS hk2 h0 hb);have HK2:=uZ hk2;have HE:=uZ hEnv;have HFP:=h_25
 have HCL:RowKit.Hid (w.cell? ⟨B,i*6+2,none⟩=some (.int .i64 u.level)∧B<w.heap.size):=by
  obtain⟨rv,cs,hE⟩:=h;have:=hE.at_ hi hbv;rw[ei] at this;exact⟨this.2.2.1,this.2.2.2.2.2.2.2.2⟩
 have CL2:=uZ HCL.out.1
 have HBW:RowKit.Hid (B≠w.heap.size):=fun e=>by
  have:=HCL.out.2;omega
 rw[hn];have HH:=uZ h;have HS:=uZ hS;have HB:=uZ hb;have CE0:=uZ ce0;have CE1:=uZ ce1;have HBV:=uZ hbv;generalize u.level=ul at KS H4 H5 H6 CL2;clear h hG hEnv hR hS hk2 hn hBr hT ce0 ce1 hbv kb kt hb ei en hup HCL eu;generalize hq2:(aE t.brs o.parent).isSome=q2 at hA H2 H3 H4 H5 H6 HFP;generalize hbl:bA t o.unit=BL at KW H3 H4 H5 H6;clear hq2 hbl;obtain⟨oi,od,ok,ou,op,ob,ol,ot,om,oo,oa,on⟩:=o;unfold Opn.agg;dsimp only [Opn.cells] at KB KP KS KW KT HKA HC HB H2 H3 H4 H5 H6 HFP ⊢;go_enter Tryz.func93,Tryz.ntmps93;go_wp2_with fail;refine(KB.out _ ((uX w).alloc _)).mono ?_;rintro e w1 ⟨rfl,g1⟩;have B1:=uZ g1;have G1:=h_221;obtain⟨o3,o4,o5,o6,o7,o8⟩:=HC.out w1 g1;clear g1 o6 o7 o8;dsimp only;by_cases hz:op=0
 ·subst hz
  have HNO:RowKit.Hid (¬ ((0:Int)≠0∧q2=false)):=fun h=>h.1 rfl
  have c0:=uQ G1.out CE0.out;have c1:=uQ G1.out CE1.out;go_wp2_with fail
  go_region_with (first|(go_at_call 136;refine(KW.out _ G1.out.drew).mono ?_;rintro e w2 ⟨v2,rfl,s2,g2⟩;obtain⟨A2,m2,rfl,hm2,hm3,-⟩:=s2.open_;have S2:=uZ s2;have HG2:=uZ g2;clear s2 g2;dsimp only))
  all_goals
   have B2:=uZ (B1.out.trans (uY (uX _).drew HG2.out));have G2:=uZ (G1.out.trans (uY (uX _).drew HG2.out));clear HG2 c0 c1 o3 o4 o5;obtain⟨o3,o4,o5,-,-,-⟩:=HC.out w2 B2.out;obtain⟨q5,hq5⟩:∃ q,BL.any (fun y=>((0:Int) == y))=q:=⟨_,rfl⟩
   have KI:=tJ BL 0 _ w2 S2.out;rw[hq5] at KI;have KI':=uZ KI;have HQ5:=uZ hq5;clear KI hq5 S2;go_wp2_with fail;refine(KI'.out).mono ?_;rintro e w3 ⟨rfl,rfl⟩;dsimp only;clear KI';cases q5
   case true =>
    obtain rfl:=H3.out HNO.out (by
     obtain⟨y,hy,e⟩:=List.any_eq_true.1 HQ5.out;have:(0:Int)=y:=by simpa using e
     rw[this]
     exact hy)
    go_wp2;go_ret;exact⟨rfl,HG.out.trans G2.out,fun h=>by cases h⟩
   have HNM:RowKit.Hid ((0:Int)∉BL):=fun hm=>by
    have:=List.any_eq_false.1 HQ5.out 0 hm;simp at this
   obtain⟨hp1,hp2⟩:=HFP.out HNO.out;have KSS:=uZ (KS.out hp1);obtain⟨ab,ao,kv,hkat,hKK⟩:=HKA.out hp2;have HKAT:=uZ hkat
   have KK:=uZ hKK;clear hkat hKK;generalize hq3:dC t 0 ul=q3 at KSS H4 H5 H6;clear hq3;have KSi:=uZ (fun i:Gr w2=>KSS.out i.W (G2.out.trans i.g));have c2:=uQ G2.out CL2.out;go_wp2_with fail;refine dD w2 (by kernel_rfl) (by kernel_rfl) (uX _) ?_;have f4:=Gr.cell o4;have f2:=Gr.cell c2
   repeat (first|go_big_quiet_step ((exact Gr.calls _ (KSi.out _)))|quiet_step ((exact Gr.calls _ (KSi.out _))))
   refine wpQuiet_nil ?_;intro _ hw';obtain⟨wi,rfl⟩:=hw';clear f4 f2 KSi c2;have B4:=uZ (B2.out.trans wi.g);have G4:=uZ (G2.out.trans wi.g);clear o3 o4 o5;obtain⟨o3,o4,o5,-,-,-⟩:=HC.out wi.W B4.out;cases q3
   case false =>
    obtain rfl:=H4.out HNO.out HNM.out b_46;go_wp2;go_ret;exact⟨rfl,HG.out.trans G4.out,fun h=>by cases h⟩
   by_cases hb0:ob=0
   ·subst hb0
    have HNB:RowKit.Hid (¬ ((0:Int)≠0∧((0:Int)=ou∨(0:Int)∉aB t 0))):=fun h=>h.1 rfl
    have nX:zFf:=()
    exact s_23
   have hb0':(ob != 0)=true:=by simpa using hb0
   by_cases hbu:ob=ou
   ·subst hbu
    exact c_47
   have hbu':(ob == ou)=false:=by simpa using hbu
   have hk3:=HKAT.out.grew G4.out;have hkc:=xL hk3 ob;obtain⟨q7,hq7⟩:∃ q,(aB t 0).any (fun y=>(ob == y))=q:=⟨_,rfl⟩
   rw[hq7] at hkc;have HKi:=uZ (fun i:Gr wi.W=>hkc i.W i.g);have KKi:=uZ (fun i:Gr wi.W=>KK.out i.W (G4.out.trans i.g));have HQ7:=uZ hq7;clear hkc hq7 KK;obtain⟨Ak,ck,rfl⟩:=aJ hk3.own;have f6:=Gr.cell hk3.cell;generalize (aB t 0).length=Lk at f6 HKi;clear hk3 HKAT;go_wp2_with fail;refine dD wi.W (by kernel_rfl) (by kernel_rfl) (uX _) ?_;have f5:=Gr.cell o5;have f4:=Gr.cell o4;have f3:=Gr.cell o3
   repeat (first|go_big_quiet_step (first|(with_reducible exact Gr.calls _ (KKi.out _))|(with_reducible exact Gr.same _ (HKi.out _)))|quiet_step (first|(with_reducible exact Gr.calls _ (KKi.out _))|(with_reducible exact Gr.same _ (HKi.out _))))
   refine wpQuiet_nil ?_;intro _ hw';obtain⟨wj,rfl⟩:=hw';clear f5 f4 f3 f6 KKi HKi;have B5:=uZ (B4.out.trans wj.g);have G5:=uZ (G4.out.trans wj.g);clear o3 o4 o5;obtain⟨o3,o4,o5,-,-,-⟩:=HC.out wj.W B5.out;cases q7
   case false =>
    have hnm:ob∉aB t 0:=fun hm=>by
     have:=List.any_eq_false.1 HQ7.out ob hm;simp at this
    exact c_95
   have HNB:RowKit.Hid (¬ (ob≠0∧(ob=ou∨ob∉aB t 0))):=fun h=>h.2.elim hbu (fun hm=>hm (by
    obtain⟨y,hy,e⟩:=List.any_eq_true.1 HQ7.out;have:ob=y:=by simpa using e
    rw[this]
    exact hy))
   obtain⟨hf0,hn6⟩:=H6.out HNO.out HNM.out b_46 HNB.out;have HN6:=uZ hn6;have hcan:=HCC.out b_12;have HCAN:=uZ hcan;clear hf0 hn6 hcan;go_wp2_with fail;refine(KT.out _ G5.out).mono ?_;rintro e w6 ⟨rfl,hE6,hG6,hk6⟩;have q3:=hk6 _ _ o3 (Nat.le_refl _);have q4:=hk6 _ _ o4 (Nat.le_refl _);have q5:=hk6 _ _ o5 (Nat.le_refl _);obtain⟨h7,g7,z7,v7,c7⟩:=HST.out w6 hE6 hG6 0;have r3:=(World.cell?_setCell_far w6 ⟨B,i*6+1,none⟩ _ (.int .i64 0) HBW.out).trans q3;have r4:=(World.cell?_setCell_far w6 ⟨B,i*6+1,none⟩ _ (.int .i64 0) HBW.out).trans q4;have r5:=(World.cell?_setCell_far w6 ⟨B,i*6+1,none⟩ _ (.int .i64 0) HBW.out).trans q5;have CP:=uZ (xB (o:=⟨oi,od,ok,ou,0,ob,ol,ot,om,oo,oa,on⟩) HS.out HCAN.out HUP.out h7 g7);dsimp only at CP;clear o3 o4 o5 hE6 hG6 hk6 h7 g7;dsimp only;go_wp2_with fail;refine(CP.out).mono ?_;rintro e w9 ⟨rfl,hE9,hG9⟩;have HE9:=uZ hE9;have HG9:=uZ hG9;have CL:=uZ (pA (o:=⟨oi,od,ok,ou,0,ob,ol,ot,om,oo,oa,on⟩) HS.out HCAN.out hE9 (HE.out.mono hG9));exact c_55
 ·have hz':(op != 0)=true:=by simpa using hz
  go_wp2_with fail;refine(KP.out _ G1.out).mono ?_;rintro e wp ⟨rfl,gp⟩;have Bp:=uZ (B1.out.trans gp);have Gp:=uZ (G1.out.trans gp);clear gp o3 o4 o5;obtain⟨o3,o4,o5,-,-,-⟩:=HC.out wp Bp.out;dsimp only
  cases A with
  | none =>
   obtain rfl:=H2.out ⟨hz,hA.symm⟩;go_wp2;go_ret;exact⟨rfl,HG.out.trans Gp.out,fun h=>by cases h⟩
  | some a =>
   obtain rfl:q2=true:=hA.symm;have HNO:RowKit.Hid (¬ (op≠0∧true=false)):=fun h=>by have:=h.2;cases this
   have c0:=uQ Gp.out CE0.out;have c1:=uQ Gp.out CE1.out;go_wp2_with fail
   go_region_with (first|(go_at_call 136;refine(KW.out _ Gp.out.drew).mono ?_;rintro e w2 ⟨v2,rfl,s2,g2⟩;obtain⟨A2,m2,rfl,hm2,hm3,-⟩:=s2.open_;have S2:=uZ s2;have HG2:=uZ g2;clear s2 g2;dsimp only))
   all_goals
    have B2:=uZ (Bp.out.trans (uY (uX _).drew HG2.out));have G2:=uZ (Gp.out.trans (uY (uX _).drew HG2.out));clear HG2 c0 c1 o3 o4 o5;obtain⟨o3,o4,o5,-,-,-⟩:=HC.out w2 B2.out;obtain⟨q5,hq5⟩:∃ q,BL.any (fun y=>((op:Int) == y))=q:=⟨_,rfl⟩
    have KI:=tJ BL op _ w2 S2.out;rw[hq5] at KI;have KI':=uZ KI;have HQ5:=uZ hq5;clear KI hq5 S2;go_wp2_with fail;refine(KI'.out).mono ?_;rintro e w3 ⟨rfl,rfl⟩;dsimp only;clear KI';cases q5
    case true =>
     obtain rfl:=H3.out HNO.out (by
      obtain⟨y,hy,e⟩:=List.any_eq_true.1 HQ5.out;have:(op:Int)=y:=by simpa using e
      rw[this]
      exact hy)
     go_wp2;go_ret;exact⟨rfl,HG.out.trans G2.out,fun h=>by cases h⟩
    have HNM:RowKit.Hid ((op:Int)∉BL):=fun hm=>by
     have:=List.any_eq_false.1 HQ5.out op hm;simp at this
    obtain⟨hp1,hp2⟩:=HFP.out HNO.out;have KSS:=uZ (KS.out hp1);obtain⟨ab,ao,kv,hkat,hKK⟩:=HKA.out hp2;have HKAT:=uZ hkat
    have KK:=uZ hKK;clear hkat hKK;generalize hq3:dC t op ul=q3 at KSS H4 H5 H6;clear hq3;have KSi:=uZ (fun i:Gr w2=>KSS.out i.W (G2.out.trans i.g));have c2:=uQ G2.out CL2.out;go_wp2_with fail;refine dD w2 (by kernel_rfl) (by kernel_rfl) (uX _) ?_;have f4:=Gr.cell o4;have f2:=Gr.cell c2
    repeat (first|go_big_quiet_step ((exact Gr.calls _ (KSi.out _)))|quiet_step ((exact Gr.calls _ (KSi.out _))))
    refine wpQuiet_nil ?_;intro _ hw';obtain⟨wi,rfl⟩:=hw';clear f4 f2 KSi c2;have B4:=uZ (B2.out.trans wi.g);have G4:=uZ (G2.out.trans wi.g);clear o3 o4 o5;obtain⟨o3,o4,o5,-,-,-⟩:=HC.out wi.W B4.out;cases q3
    case false =>
     obtain rfl:=H4.out HNO.out HNM.out b_46;go_wp2;go_ret;exact⟨rfl,HG.out.trans G4.out,fun h=>by cases h⟩
    by_cases hb0:ob=0
    ·subst hb0
     have HNB:RowKit.Hid (¬ ((0:Int)≠0∧((0:Int)=ou∨(0:Int)∉aB t op))):=fun h=>h.1 rfl
     have nX:zFg:=()
     exact s_23
    have hb0':(ob != 0)=true:=by simpa using hb0
    by_cases hbu:ob=ou
    ·subst hbu
     exact c_47
    have hbu':(ob == ou)=false:=by simpa using hbu
    have hk3:=HKAT.out.grew G4.out;have hkc:=xL hk3 ob;obtain⟨q7,hq7⟩:∃ q,(aB t op).any (fun y=>(ob == y))=q:=⟨_,rfl⟩
    rw[hq7] at hkc;have HKi:=uZ (fun i:Gr wi.W=>hkc i.W i.g);have KKi:=uZ (fun i:Gr wi.W=>KK.out i.W (G4.out.trans i.g));have HQ7:=uZ hq7;clear hkc hq7 KK;obtain⟨Ak,ck,rfl⟩:=aJ hk3.own;have f6:=Gr.cell hk3.cell;generalize (aB t op).length=Lk at f6 HKi;clear hk3 HKAT;go_wp2_with fail;refine dD wi.W (by kernel_rfl) (by kernel_rfl) (uX _) ?_;have f5:=Gr.cell o5;have f4:=Gr.cell o4;have f3:=Gr.cell o3
    repeat (first|go_big_quiet_step (first|(with_reducible exact Gr.calls _ (KKi.out _))|(with_reducible exact Gr.same _ (HKi.out _)))|quiet_step (first|(with_reducible exact Gr.calls _ (KKi.out _))|(with_reducible exact Gr.same _ (HKi.out _))))
    refine wpQuiet_nil ?_;intro _ hw';obtain⟨wj,rfl⟩:=hw';clear f5 f4 f3 f6 KKi HKi;have B5:=uZ (B4.out.trans wj.g);have G5:=uZ (G4.out.trans wj.g);clear o3 o4 o5;obtain⟨o3,o4,o5,-,-,-⟩:=HC.out wj.W B5.out;cases q7
    case false =>
     have hnm:ob∉aB t op:=fun hm=>by
      have:=List.any_eq_false.1 HQ7.out ob hm;simp at this
     exact c_95
    have HNB:RowKit.Hid (¬ (ob≠0∧(ob=ou∨ob∉aB t op))):=fun h=>h.2.elim hbu (fun hm=>hm (by
     obtain⟨y,hy,e⟩:=List.any_eq_true.1 HQ7.out;have:ob=y:=by simpa using e
     rw[this]
     exact hy))
    obtain⟨hf0,hn6⟩:=H6.out HNO.out HNM.out b_46 HNB.out;have HN6:=uZ hn6;have hcan:=HCC.out b_12;have HCAN:=uZ hcan;clear hf0 hn6 hcan;go_wp2_with fail;refine(KT.out _ G5.out).mono ?_;rintro e w6 ⟨rfl,hE6,hG6,hk6⟩;have q3:=hk6 _ _ o3 (Nat.le_refl _);have q4:=hk6 _ _ o4 (Nat.le_refl _);have q5:=hk6 _ _ o5 (Nat.le_refl _);obtain⟨h7,g7,z7,v7,c7⟩:=HST.out w6 hE6 hG6 op;have r3:=(World.cell?_setCell_far w6 ⟨B,i*6+1,none⟩ _ (.int .i64 op) HBW.out).trans q3;have r4:=(World.cell?_setCell_far w6 ⟨B,i*6+1,none⟩ _ (.int .i64 op) HBW.out).trans q4;have r5:=(World.cell?_setCell_far w6 ⟨B,i*6+1,none⟩ _ (.int .i64 op) HBW.out).trans q5;have CP:=uZ (xB (o:=⟨oi,od,ok,ou,op,ob,ol,ot,om,oo,oa,on⟩) HS.out HCAN.out HUP.out h7 g7);dsimp only at CP;clear o3 o4 o5 hE6 hG6 hk6 h7 g7;dsimp only;go_wp2_with fail;refine(CP.out).mono ?_;rintro e w9 ⟨rfl,hE9,hG9⟩;have HE9:=uZ hE9;have HG9:=uZ hG9;have CL:=uZ (pA (o:=⟨oi,od,ok,ou,op,ob,ol,ot,om,oo,oa,on⟩) HS.out HCAN.out hE9 (HE.out.mono hG9));exact c_55
end
end Go.Proofs.YtdochkemaiokfaaGreat