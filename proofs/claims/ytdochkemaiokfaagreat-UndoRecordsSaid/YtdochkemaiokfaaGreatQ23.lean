/- Lemmas on what the functions of the program and of the library compute: Es8. The conditions stand at each. -/
import Derived.Test.YtdochkemaiokfaaGreatQ17
import Derived.Test.YtdochkemaiokfaaGreatQ7
set_option maxHeartbeats 16000000
set_option maxRecDepth 100000
set_option linter.all false
namespace Go.Proofs.YtdochkemaiokfaaGreat
open Go.RowKit
theorem c_58 {p:Prop} (h:p:=by
 rw[← HN7.out] at CL;clear hE9 hG9 c3 c4 c5 CP;dsimp only;go_wp2_with fail;refine(CL.out).mono ?_;rintro e w10 ⟨rfl,g10⟩;have HG10:=uZ g10;clear g10;dsimp only;go_wp2;go_ret;exact⟨rfl,HG9.out.trans HG10.out,fun _=>⟨bv8,HE9.out.grew HG10.out⟩⟩
):p:=h
theorem e_22 {p:Prop} (h:p:=by
 go_wp2;go_ret;exact⟨rfl,HG.out.trans G5.out,fun h=>by cases h⟩
):p:=h
theorem c_59 {p:Prop} (h:p:=by
 obtain rfl:=H6.out b_46 HNO.out b_46 HNB.out b_46 h6;have h6z:(256:Int)≤(t.brs.length:Int):=by omega
 exact e_22
):p:=h
theorem c_66 {p:Prop} (h:p:=by
 by_cases h0:o.parent=0
 ·exact⟨.inl h0,.inl h0⟩
 ·cases hb:aE t.brs o.parent with
  | none=>exact absurd ⟨h0,by rw[hb];rfl⟩ hno
  | some b=>exact⟨.inr ⟨b,rfl⟩,.inr ⟨b,(bE hb).1,(bE hb).2⟩⟩
):p:=h
theorem c_74 {p:Prop} (h:p:=by
 obtain rfl:=H5.out b_46 HNO.out b_46 HNB.out b_46;exact e_22
):p:=h
theorem c_87 {p:Prop} (h:p:=by
 obtain rfl:=H4.out b_46 HNO.out b_46 ⟨hb0,hnm⟩;go_wp2;go_ret;exact⟨rfl,HG.out.trans G4.out,fun h=>by cases h⟩
):p:=h
theorem c_93 {p:Prop} (h:p:=by
 obtain rfl:=H3.out b_46 HNO.out b_46;go_wp2;go_ret;exact⟨rfl,HG.out.trans G3.out,fun h=>by cases h⟩
):p:=h
theorem c_106 {p:Prop} (h:p:=by
 obtain⟨rvh,csh,hEh⟩:=HH.out;have hEb:=hEh.brs;rw[HBV.out] at hEb;have:=(hEb.lt _ e.symm).2;omega
):p:=h
theorem c_114 {p:Prop} (h:p:=by
 have:=World.block_lt_of_cell? w _ CE1.out;rw[e] at this;exact Nat.lt_irrefl _ this
):p:=h
theorem c_124 {p:Prop} (h:p:=by
 obtain⟨rv',cs',hE'⟩:=HEU.out;exact hE'.cells.2.2.2
):p:=h
theorem h_4 {p:Prop} (h:p:=by
 exact uZ (fun(w7:World) (v:Value) (hk:∀ p x,(WU.alloc (.cells #[.int .i64 ou,.int .i64 op,.int .i64 ol,.string ot,.string om,.slice none 0 0] 66)).drew.cell? p=some x→some p.block≠(Value.slice Abv t.brs.length cbv).ownBlock→w7.cell? p=some x)=>(show _∧_∧_ from⟨eT (v:=v) hk hab haE (uQ (((uX WU).alloc _).drew) o3),eT (v:=v) hk hab haE (uQ (((uX WU).alloc _).drew) o4),eT (v:=v) hk hab haE (uQ (((uX WU).alloc _).drew) o5)⟩))
):p:=h
theorem h_5 {p:Prop} (h:p:=by
 exact uZ (fun(w7:World) (v:Value) (hk:∀ p x,(WU.alloc (.cells #[.int .i64 ou,.int .i64 0,.int .i64 ol,.string ot,.string om,.slice none 0 0] 66)).drew.cell? p=some x→some p.block≠(Value.slice Abv t.brs.length cbv).ownBlock→w7.cell? p=some x)=>(show _∧_∧_ from⟨eT (v:=v) hk hab haE (uQ (((uX WU).alloc _).drew) o3),eT (v:=v) hk hab haE (uQ (((uX WU).alloc _).drew) o4),eT (v:=v) hk hab haE (uQ (((uX WU).alloc _).drew) o5)⟩))
):p:=h
theorem h_17 {p:Prop} (h:p:=by
 exact uZ (HINS.out (WU.alloc (.cells #[.int .i64 ou,.int .i64 op,.int .i64 ol,.string ot,.string om,.slice none 0 0] 66)).drew (((uX WU).alloc _).drew) (by show(WU.alloc _).heap[_]? = _;exact World.alloc_heap_new WU _))
):p:=h
theorem h_18 {p:Prop} (h:p:=by
 exact uZ (HINS.out (WU.alloc (.cells #[.int .i64 ou,.int .i64 0,.int .i64 ol,.string ot,.string om,.slice none 0 0] 66)).drew (((uX WU).alloc _).drew) (by show(WU.alloc _).heap[_]? = _;exact World.alloc_heap_new WU _))
):p:=h
theorem h_25 {p:Prop} (h:p:=by
 exact(show RowKit.Hid (¬ (o.parent≠0∧(aE t.brs o.parent).isSome=false)→(o.parent=0∨∃ b,aE t.brs o.parent=some b)∧(o.parent=0∨∃ b∈t.brs,b.id=o.parent)) from fun hno=>by
  exact c_66)
):p:=h
theorem h_51 {p:Prop} (h:p:=by
 exact(show(w5.alloc (.cells [.int .i64 ou,.int .i64 op,.int .i64 ol,.string ot,.string om].toArray 64)).frozen? ⟨E,1,none⟩=false from by
  exact c_124)
):p:=h
theorem h_52 {p:Prop} (h:p:=by
 exact(show(w5.alloc (.cells [.int .i64 ou,.int .i64 0,.int .i64 ol,.string ot,.string om].toArray 64)).frozen? ⟨E,1,none⟩=false from by
  exact c_124)
):p:=h
theorem h_66 {p:Prop} (h:p:=by
 exact uQ (((uX WU).alloc (.cells #[.int .i64 ou,.int .i64 op,.int .i64 ol,.string ot,.string om,.slice none 0 0] 66)).drew) eu1
):p:=h
theorem h_67 {p:Prop} (h:p:=by
 exact uQ (((uX WU).alloc (.cells #[.int .i64 ou,.int .i64 0,.int .i64 ol,.string ot,.string om,.slice none 0 0] 66)).drew) eu1
):p:=h
theorem h_71 {p:Prop} (h:p:=by
 exact uQ (((uX WU).alloc (.cells #[.int .i64 ou,.int .i64 op,.int .i64 ol,.string ot,.string om,.slice none 0 0] 66))) eu1
):p:=h
theorem h_74 {p:Prop} (h:p:=by
 exact uQ (((uX WU).alloc (.cells #[.int .i64 ou,.int .i64 0,.int .i64 ol,.string ot,.string om,.slice none 0 0] 66))) eu1
):p:=h
theorem h_79 {p:Prop} (h:p:=by
 exact uZ (HH.out.grew (G5.out.alloc (.cells [.int .i64 ou,.int .i64 op,.int .i64 ol,.string ot,.string om].toArray 64)))
):p:=h
theorem h_81 {p:Prop} (h:p:=by
 exact uZ (HH.out.grew (G5.out.alloc (.cells [.int .i64 ou,.int .i64 0,.int .i64 ol,.string ot,.string om].toArray 64)))
):p:=h
theorem h_84 {p:Prop} (h:p:=by
 exact yQ (uX (w5.alloc (.cells [.int .i64 ou,.int .i64 op,.int .i64 ol,.string ot,.string om].toArray 64))) 0 _ rfl
):p:=h
theorem h_85 {p:Prop} (h:p:=by
 exact yQ (uX (w5.alloc (.cells [.int .i64 ou,.int .i64 op,.int .i64 ol,.string ot,.string om].toArray 64))) 1 _ rfl
):p:=h
theorem h_86 {p:Prop} (h:p:=by
 exact yQ (uX (w5.alloc (.cells [.int .i64 ou,.int .i64 op,.int .i64 ol,.string ot,.string om].toArray 64))) 2 _ rfl
):p:=h
theorem h_87 {p:Prop} (h:p:=by
 exact yQ (uX (w5.alloc (.cells [.int .i64 ou,.int .i64 op,.int .i64 ol,.string ot,.string om].toArray 64))) 3 _ rfl
):p:=h
theorem h_88 {p:Prop} (h:p:=by
 exact yQ (uX (w5.alloc (.cells [.int .i64 ou,.int .i64 op,.int .i64 ol,.string ot,.string om].toArray 64))) 4 _ rfl
):p:=h
theorem h_91 {p:Prop} (h:p:=by
 exact yQ (uX (w5.alloc (.cells [.int .i64 ou,.int .i64 0,.int .i64 ol,.string ot,.string om].toArray 64))) 0 _ rfl
):p:=h
theorem h_92 {p:Prop} (h:p:=by
 exact yQ (uX (w5.alloc (.cells [.int .i64 ou,.int .i64 0,.int .i64 ol,.string ot,.string om].toArray 64))) 1 _ rfl
):p:=h
theorem h_93 {p:Prop} (h:p:=by
 exact yQ (uX (w5.alloc (.cells [.int .i64 ou,.int .i64 0,.int .i64 ol,.string ot,.string om].toArray 64))) 2 _ rfl
):p:=h
theorem h_94 {p:Prop} (h:p:=by
 exact yQ (uX (w5.alloc (.cells [.int .i64 ou,.int .i64 0,.int .i64 ol,.string ot,.string om].toArray 64))) 3 _ rfl
):p:=h
theorem h_95 {p:Prop} (h:p:=by
 exact yQ (uX (w5.alloc (.cells [.int .i64 ou,.int .i64 0,.int .i64 ol,.string ot,.string om].toArray 64))) 4 _ rfl
):p:=h
theorem h_116 {p:Prop} (h:p:=by
 exact uZ (G5.out.alloc (.cells [.int .i64 ou,.int .i64 op,.int .i64 ol,.string ot,.string om].toArray 64))
):p:=h
theorem h_117 {p:Prop} (h:p:=by
 exact uZ (B5.out.alloc (.cells [.int .i64 ou,.int .i64 op,.int .i64 ol,.string ot,.string om].toArray 64))
):p:=h
theorem h_127 {p:Prop} (h:p:=by
 exact(show some w.heap.size≠(Value.slice Abv t.brs.length cbv).ownBlock from fun e=>by
  exact c_106)
):p:=h
theorem h_154 {p:Prop} (h:p:=by
 exact uZ (fun W (hW:aA (w.alloc (.cells o.cells.toArray 26)) W)=>jL o hW)
):p:=h
theorem h_189 {p:Prop} (h:p:=by
 exact HCC.out (by unfold cW;rw[if_pos HK1.out];exact hf0)
):p:=h
theorem h_192 {p:Prop} (h:p:=by
 exact(show ¬ (256:Int)≤(t.brs.length:Int) from by omega)
):p:=h
theorem h_194 {p:Prop} (h:p:=by
 exact(show w.heap.size≠E from fun e=>by
  exact c_114)
):p:=h
theorem h_231 {p:Prop} (h:p:=by
 exact uZ (G1.out.trans g2)
):p:=h
theorem h_232 {p:Prop} (h:p:=by
 exact uZ (G2.out.trans g3)
):p:=h
theorem s_18 {p:Prop} (h:p:=by
 have h6z:=h_192;obtain⟨hf0,hn7⟩:=H7.out b_46 HNO.out b_46 HNB.out b_46 h6;have HN7:=uZ hn7;have hcan:=h_189;have HCAN:=uZ hcan;clear hf0 hn7 hcan h6;go_wp2_with fail;have HEU:=h_81;have GU:=uZ (G5.out.alloc (.cells [.int .i64 ou,.int .i64 0,.int .i64 ol,.string ot,.string om].toArray 64));have BU:=uZ (B5.out.alloc (.cells [.int .i64 ou,.int .i64 0,.int .i64 ol,.string ot,.string om].toArray 64));have u0:=h_91;have u1:=h_92;have u2:=h_93;have u3:=h_94;have u4:=h_95;have eu1:=uQ GU.out CE1.out;have fu1:=h_52;clear o3 o4 o5 o6 o7 o8 ce1;generalize (w5.alloc (.cells [.int .i64 ou,.int .i64 0,.int .i64 ol,.string ot,.string om].toArray 64))=WU at HEU GU BU u0 u1 u2 u3 u4 eu1 fu1 ⊢;exact nX.g
):p:=h
theorem s_26 {p:Prop} (h:p:=by
 generalize hq5:gF t om 0=q5 at KU H5 H6 H7;clear hq5;go_wp2_with fail;refine(KU.out _ G4.out).mono ?_;rintro e w5 ⟨rfl,g5⟩;have B5:=uZ (B4.out.trans g5);have G5:=uZ (G4.out.trans g5);clear g5 o3 o4 o5 o6 o7 o8;obtain⟨o3,o4,o5,o6,o7,o8⟩:=HC.out w5 B5.out;dsimp only;exact nX.g
):p:=h
theorem s_30 {p:Prop} (h:p:=by
 clear hk3 HKAT;go_wp2_with fail;refine dD w3 (by kernel_rfl) (by kernel_rfl) (uX _) ?_;have f5:=Gr.cell o5;have f4:=Gr.cell o4
 repeat (first|go_big_quiet_step (first|(with_reducible exact Gr.calls _ (KKi.out _))|(with_reducible exact Gr.same _ (HKi.out _)))|quiet_step (first|(with_reducible exact Gr.calls _ (KKi.out _))|(with_reducible exact Gr.same _ (HKi.out _))))
 refine wpQuiet_nil ?_;intro _ hw';obtain⟨wi,rfl⟩:=hw';have g4:=wi.g;clear f5 f4 f6 KKi HKi;have B4:=uZ (B3.out.trans g4);have G4:=uZ (G3.out.trans g4);clear g4 o3 o4 o5 o6 o7 o8;obtain⟨o3,o4,o5,o6,o7,o8⟩:=HC.out wi.W B4.out;exact nX.g
):p:=h
theorem s_35 {p:Prop} (h:p:=by
 have h6z:=h_192;obtain⟨hf0,hn7⟩:=H7.out b_46 HNO.out b_46 HNB.out b_46 h6;have HN7:=uZ hn7;have hcan:=h_189;have HCAN:=uZ hcan;clear hf0 hn7 hcan h6;go_wp2_with fail;have HEU:=h_79;have GU:=h_116;have BU:=h_117;have u0:=h_84;have u1:=h_85;have u2:=h_86;have u3:=h_87;have u4:=h_88;have eu1:=uQ GU.out CE1.out;have fu1:=h_51;clear o3 o4 o5 o6 o7 o8 ce1;generalize (w5.alloc (.cells [.int .i64 ou,.int .i64 op,.int .i64 ol,.string ot,.string om].toArray 64))=WU at HEU GU BU u0 u1 u2 u3 u4 eu1 fu1 ⊢;exact nX.g
):p:=h
theorem eT {W w7:World} {bv v:Value} {a E i:Nat} {x:Value} (hk:∀ p x,W.cell? p=some x→some p.block≠bv.ownBlock→w7.cell? p=some x) (hne:some a≠bv.ownBlock) (hE:a≠E) (h:W.cell? ⟨a,i,none⟩=some x):(w7.setCell ⟨E,1,none⟩ v).cell? ⟨a,i,none⟩=some x:=by
 rw[World.cell?_setCell_far _ _ _ _ (fun e=>hE e.symm)];exact hk _ _ h hne
theorem xL {base E:Nat} {bv:Value} {t:Tr} {w:World} {p:Int} {a:Addr} {kv:Value} (h:KAt base E bv t p a kv w) (x:Int) (W:World) (hW:aA w W) :
  Calls Tryz.prog 35 #[kv,.int .i64 x] W fun e w'=>e=.returned (.bool ((aB t p).any fun y=>(x == y)))∧W=w':=tJ _ x kv W ((show SlI w kv _ from Rd.of_own h.own).mono hW)
section
variable {w0:World} {E:Nat} {bv:Value} {t:Tr} {w:World}
def zEy:=Unit
theorem zEy.g {p:Prop} (_:zEy) (h:p:=by
 have HINS:=uZ (fun W (hW:aA WU W) hv=>pL (o:=⟨oi,od,ok,ou,0,0,ol,ot,om,oo,oa,on⟩) HS.out HEU.out (HG.out.trans GU.out) W hW hv);dsimp only [gI,Br.c,BrC.cells] at HINS;rw[HPO.out,HBV.out] at HINS;have HCALL:=h_18;clear HINS;obtain⟨o3,o4,o5,-,-,-⟩:=HC.out WU BU.out;have hab:=h_127;have haE:=h_194;have HCB:=h_5;clear o3 o4 o5 hab haE;have eu1a:=h_74;have eu1b:=h_67
 go_region_with (first|(go_at_call 133;go_loud (refine(HCALL.out).mono ?_;rintro e w7 ⟨A7,n7,c7,rfl,hE8,hG8,hz7,hc7,hk7⟩;have HE8:=uZ hE8;have HG8:=uZ hG8;have HK7:=uZ hk7;clear hE8 hG8 hk7;dsimp only)))
 all_goals
  obtain⟨bv8,hE8⟩:=HE8.out;have p1:=HCB.out w7 (.slice A7 n7 c7) HK7.out;obtain⟨c3,c4,c5⟩:=p1;have HG8':=HG8;clear HE8 HG8 HK7 hz7 hc7;generalize (w7.setCell ⟨E,1,none⟩ (.slice A7 n7 c7))=W8 at hE8 HG8' c3 c4 c5 ⊢;have CP:=uZ (pK (o:=⟨oi,od,ok,ou,0,0,ol,ot,om,oo,oa,on⟩) HS.out HCAN.out hE8 HG8'.out);dsimp only at CP;clear hE8;go_wp2_with fail;refine(CP.out).mono ?_;rintro e w9 ⟨rfl,hE9,hG9⟩;have HE9:=uZ hE9;have HG9:=uZ hG9;have CL:=uZ (lB (o:=⟨oi,od,ok,ou,0,0,ol,ot,om,oo,oa,on⟩) HS.out HCAN.out hE9 (HE.out.mono hG9));exact c_58
):p:=h
def zEz:=Unit
theorem zEz.g {p:Prop} (_:zEz) (h:p:=by
 have HINS:=uZ (fun W (hW:aA WU W) hv=>pL (o:=⟨oi,od,ok,ou,0,ob,ol,ot,om,oo,oa,on⟩) HS.out HEU.out (HG.out.trans GU.out) W hW hv);dsimp only [gI,Br.c,BrC.cells] at HINS;rw[HPO.out,HBV.out] at HINS;have HCALL:=h_18;clear HINS;obtain⟨o3,o4,o5,-,-,-⟩:=HC.out WU BU.out;have hab:=h_127;have haE:=h_194;have HCB:=h_5;clear o3 o4 o5 hab haE;have eu1a:=h_74;have eu1b:=h_67
 go_region_with (first|(go_at_call 133;go_loud (refine(HCALL.out).mono ?_;rintro e w7 ⟨A7,n7,c7,rfl,hE8,hG8,hz7,hc7,hk7⟩;have HE8:=uZ hE8;have HG8:=uZ hG8;have HK7:=uZ hk7;clear hE8 hG8 hk7;dsimp only)))
 all_goals
  obtain⟨bv8,hE8⟩:=HE8.out;have p1:=HCB.out w7 (.slice A7 n7 c7) HK7.out;obtain⟨c3,c4,c5⟩:=p1;have HG8':=HG8;clear HE8 HG8 HK7 hz7 hc7;generalize (w7.setCell ⟨E,1,none⟩ (.slice A7 n7 c7))=W8 at hE8 HG8' c3 c4 c5 ⊢;have CP:=uZ (pK (o:=⟨oi,od,ok,ou,0,ob,ol,ot,om,oo,oa,on⟩) HS.out HCAN.out hE8 HG8'.out);dsimp only at CP;clear hE8;go_wp2_with fail;refine(CP.out).mono ?_;rintro e w9 ⟨rfl,hE9,hG9⟩;have HE9:=uZ hE9;have HG9:=uZ hG9;have CL:=uZ (lB (o:=⟨oi,od,ok,ou,0,ob,ol,ot,om,oo,oa,on⟩) HS.out HCAN.out hE9 (HE.out.mono hG9));exact c_58
):p:=h
def zFr:=Unit
theorem zFr.g {p:Prop} (_:zFr) (h:p:=by
 cases q5
 case true =>
  exact c_74
 have ce1:=uQ G5.out CE1.out;by_cases h6:256≤t.brs.length
 case pos =>
  exact c_59
 have nX:zEy:=()
 exact s_18
):p:=h
def zFs:=Unit
theorem zFs.g {p:Prop} (_:zFs) (h:p:=by
 cases q5
 case true =>
  exact c_74
 have ce1:=uQ G5.out CE1.out;by_cases h6:256≤t.brs.length
 case pos =>
  exact c_59
 have nX:zEz:=()
 exact s_18
):p:=h
def zFt:=Unit
def zGi:=Unit
theorem zGi.g {p:Prop} (_:zGi) (h:p:=by
 have HINS:=uZ (fun W (hW:aA WU W) hv=>pL (o:=⟨oi,od,ok,ou,op,0,ol,ot,om,oo,oa,on⟩) HS.out HEU.out (HG.out.trans GU.out) W hW hv);dsimp only [gI,Br.c,BrC.cells] at HINS;rw[HPO.out,HBV.out] at HINS;have HCALL:=h_17;clear HINS;obtain⟨o3,o4,o5,-,-,-⟩:=HC.out WU BU.out;have hab:=h_127;have haE:=h_194;have HCB:=h_4;clear o3 o4 o5 hab haE;have eu1a:=h_71;have eu1b:=h_66
 go_region_with (first|(go_at_call 133;go_loud (refine(HCALL.out).mono ?_;rintro e w7 ⟨A7,n7,c7,rfl,hE8,hG8,hz7,hc7,hk7⟩;have HE8:=uZ hE8;have HG8:=uZ hG8;have HK7:=uZ hk7;clear hE8 hG8 hk7;dsimp only)))
 all_goals
  obtain⟨bv8,hE8⟩:=HE8.out;have p1:=HCB.out w7 (.slice A7 n7 c7) HK7.out;obtain⟨c3,c4,c5⟩:=p1;have HG8':=HG8;clear HE8 HG8 HK7 hz7 hc7;generalize (w7.setCell ⟨E,1,none⟩ (.slice A7 n7 c7))=W8 at hE8 HG8' c3 c4 c5 ⊢;have CP:=uZ (pK (o:=⟨oi,od,ok,ou,op,0,ol,ot,om,oo,oa,on⟩) HS.out HCAN.out hE8 HG8'.out);dsimp only at CP;clear hE8;go_wp2_with fail;refine(CP.out).mono ?_;rintro e w9 ⟨rfl,hE9,hG9⟩;have HE9:=uZ hE9;have HG9:=uZ hG9;have CL:=uZ (lB (o:=⟨oi,od,ok,ou,op,0,ol,ot,om,oo,oa,on⟩) HS.out HCAN.out hE9 (HE.out.mono hG9));exact c_58
):p:=h
theorem zFt.g {p:Prop} (_:zFt) (h:p:=by
 cases q5
 case true =>
  exact c_74
 have ce1:=uQ G5.out CE1.out;by_cases h6:256≤t.brs.length
 case pos =>
  exact c_59
 have nX:zGi:=()
 exact s_35
):p:=h
def zFu:=Unit
def zGj:=Unit
theorem zGj.g {p:Prop} (_:zGj) (h:p:=by
 have HINS:=uZ (fun W (hW:aA WU W) hv=>pL (o:=⟨oi,od,ok,ou,op,ob,ol,ot,om,oo,oa,on⟩) HS.out HEU.out (HG.out.trans GU.out) W hW hv);dsimp only [gI,Br.c,BrC.cells] at HINS;rw[HPO.out,HBV.out] at HINS;have HCALL:=h_17;clear HINS;obtain⟨o3,o4,o5,-,-,-⟩:=HC.out WU BU.out;have hab:=h_127;have haE:=h_194;have HCB:=h_4;clear o3 o4 o5 hab haE;have eu1a:=h_71;have eu1b:=h_66
 go_region_with (first|(go_at_call 133;go_loud (refine(HCALL.out).mono ?_;rintro e w7 ⟨A7,n7,c7,rfl,hE8,hG8,hz7,hc7,hk7⟩;have HE8:=uZ hE8;have HG8:=uZ hG8;have HK7:=uZ hk7;clear hE8 hG8 hk7;dsimp only)))
 all_goals
  obtain⟨bv8,hE8⟩:=HE8.out;have p1:=HCB.out w7 (.slice A7 n7 c7) HK7.out;obtain⟨c3,c4,c5⟩:=p1;have HG8':=HG8;clear HE8 HG8 HK7 hz7 hc7;generalize (w7.setCell ⟨E,1,none⟩ (.slice A7 n7 c7))=W8 at hE8 HG8' c3 c4 c5 ⊢;have CP:=uZ (pK (o:=⟨oi,od,ok,ou,op,ob,ol,ot,om,oo,oa,on⟩) HS.out HCAN.out hE8 HG8'.out);dsimp only at CP;clear hE8;go_wp2_with fail;refine(CP.out).mono ?_;rintro e w9 ⟨rfl,hE9,hG9⟩;have HE9:=uZ hE9;have HG9:=uZ hG9;have CL:=uZ (lB (o:=⟨oi,od,ok,ou,op,ob,ol,ot,om,oo,oa,on⟩) HS.out HCAN.out hE9 (HE.out.mono hG9));exact c_58
):p:=h
theorem zFu.g {p:Prop} (_:zFu) (h:p:=by
 cases q5
 case true =>
  exact c_74
 have ce1:=uQ G5.out CE1.out;by_cases h6:256≤t.brs.length
 case pos =>
  exact c_59
 have nX:zGj:=()
 exact s_35
):p:=h
def zF2:=Unit
theorem zF2.g {p:Prop} (_:zF2) (h:p:=by
 cases q4
 case false =>
  have hnm:ob∉aB t 0:=fun hm=>by
   have:=List.any_eq_false.1 HQ4.out ob hm;simp at this
  exact c_87
 have HNB:RowKit.Hid (¬ (ob≠0∧ob∉aB t 0)):=fun h=>h.2 (by
  obtain⟨y,hy,e⟩:=List.any_eq_true.1 HQ4.out;have:ob=y:=by simpa using e
  rw[this]
  exact hy)
 have nX:zFs:=()
 exact s_26
):p:=h
def zF3:=Unit
theorem zF3.g {p:Prop} (_:zF3) (h:p:=by
 cases q4
 case false =>
  have hnm:ob∉aB t op:=fun hm=>by
   have:=List.any_eq_false.1 HQ4.out ob hm;simp at this
  exact c_87
 have HNB:RowKit.Hid (¬ (ob≠0∧ob∉aB t op)):=fun h=>h.2 (by
  obtain⟨y,hy,e⟩:=List.any_eq_true.1 HQ4.out;have:ob=y:=by simpa using e
  rw[this]
  exact hy)
 have nX:zFu:=()
 exact s_26
):p:=h
theorem aRv (h:EdB w0.heap.size E bv t w) (hG:aA w0 w) (hEnv:Env w0) (hS:bG t) (o:Opn) (hf:aP o=true) (hk1:o.kind=1) :
  Calls Tryz.prog 92 #[.pointer (some ⟨E,0,none⟩),o.agg] w (aBo w0 E (fF t o) (yM t o)):=by
 have hT:=jF hS;have HC:=h_154;have HG:=uZ hG;have KF:=uZ (fun W (hW:aA w W)=>aFy (h.grew hW) hT.asc hT.len o.unit);obtain⟨A,hA,hBr⟩:=aAn h hT o.parent;have KB:=uZ hBr;have KS:=uZ (fun hp W (hW:aA w W)=>aFx (h.grew hW) hT o.parent o.level hp);have KU:=uZ (fun W (hW:aA w W)=>aTp (h.grew hW) hT o.mark 0);have HKA:=uZ (fun hp=>rX h hT.asc hT.len (p:=o.parent) hp);obtain⟨n,hn⟩:∃ n,yM t o=n:=⟨_,rfl⟩
 have H1:=uZ (fun a=>hn.symm.trans (aYu a));have H2:=uZ (fun a b=>hn.symm.trans (aYt a b));have H3:=uZ (fun a b c=>hn.symm.trans (aYs a b c));have H4:=uZ (fun a b c d=>hn.symm.trans (aYr a b c d));have H5:=uZ (fun a b c d e=>hn.symm.trans (aYq a b c d e));have H6:=uZ (fun a b c d e f=>hn.symm.trans (aYp a b c d e f));have H7:=uZ (fun a b c d e f=>(show _∧_ from⟨(aTd a b c d e f).1,hn.symm.trans (aTd a b c d e f).2⟩));have HK1:=uZ hk1;have HCC:=uZ (fun h0=>aIn hS hf hk1 h0);have HFP:=h_25;rw[hn];have HH:=uZ h;have HS:=uZ hS;have HE:=uZ hEnv;have HT:=uZ hT;obtain⟨rv,hrr,hbb,ce0,ce1,-,-⟩:=h.reads;obtain⟨Abv,cbv,hbv,hlbv,hcbv,-⟩:=hbb.open_;unfold maxLen at hcbv;rw[hbv] at ce1;have CE1:=uZ ce1;have HBV:=uZ hbv;clear h hG hEnv hS hf hk1 hn hBr hT hrr hbb ce0 ce1 hbv;generalize hq1:(aE t.brs o.unit).isSome=q1 at KF H1 H2 H3 H4 H5 H6 H7;generalize hq2:(aE t.brs o.parent).isSome=q2 at hA H2 H3 H4 H5 H6 H7 HFP;generalize hpo:aHg t.brs o.unit=po at KF;have HPO:=uZ hpo;clear hq1 hq2 hpo;obtain⟨oi,od,ok,ou,op,ob,ol,ot,om,oo,oa,on⟩:=o;unfold Opn.agg;dsimp only [Opn.cells] at KF KB KS KU HKA HC H1 H2 H3 H4 H5 H6 H7 HFP ⊢;go_enter Tryz.func92,Tryz.ntmps92;go_wp2_with fail;refine(KF.out _ ((uX w).alloc _)).mono ?_;rintro e w1 ⟨rfl,g1⟩;have B1:=uZ g1;have G1:=h_221;obtain⟨o3,o4,o5,o6,o7,o8⟩:=HC.out w1 g1;clear g1;dsimp only;cases q1
 case true =>
  obtain rfl:=H1.out b_46;go_wp2;go_ret;exact⟨rfl,HG.out.trans G1.out,fun h=>by cases h⟩
 -- the parent
 by_cases hz:op=0
 ·subst hz
  have HNO:RowKit.Hid (¬ ((0:Int)≠0∧q2=false)):=fun h=>h.1 rfl
  obtain⟨hp1,hp2⟩:=HFP.out HNO.out;have KSS:=uZ (KS.out hp1);obtain⟨ab,ao,kv,hkat,hKK⟩:=HKA.out hp2;have HKAT:=uZ hkat
  have KK:=uZ hKK;clear hkat hKK;generalize hq3:dC t 0 ol=q3 at KSS H3 H4 H5 H6 H7;clear hq3;go_wp2_with fail;refine(KSS.out _ G1.out).mono ?_;rintro e w3 ⟨rfl,g3⟩;have B3:=uZ (B1.out.trans g3);have G3:=uZ (G1.out.trans g3);clear g3 o3 o4 o5 o6 o7 o8;obtain⟨o3,o4,o5,o6,o7,o8⟩:=HC.out w3 B3.out;dsimp only;cases q3
  case false =>
   exact c_93
  by_cases hb0:ob=0
  case pos =>
   subst hb0;have HNB:RowKit.Hid (¬ ((0:Int)≠0∧(0:Int)∉aB t 0)):=fun h=>h.1 rfl
   go_wp2_with fail;refine dD w3 (by kernel_rfl) (by kernel_rfl) (uX _) ?_;have f5:=Gr.cell o5
   repeat (first|go_big_quiet_step (fail)|quiet_step (fail))
   refine wpQuiet_nil ?_;intro _ hw';obtain⟨wi,rfl⟩:=hw';have g4:=wi.g;clear f5;have B4:=uZ (B3.out.trans g4);have G4:=uZ (G3.out.trans g4);clear g4 o3 o4 o5 o6 o7 o8;obtain⟨o3,o4,o5,o6,o7,o8⟩:=HC.out wi.W B4.out;have nX:zFr:=()
   exact s_26
  case neg =>
   have hb0':(ob != 0)=true:=by simpa using hb0
   have hk3:=HKAT.out.grew G3.out;have hkc:=xL hk3 ob;obtain⟨q4,hq4⟩:∃ q,(aB t 0).any (fun y=>(ob == y))=q:=⟨_,rfl⟩
   rw[hq4] at hkc;have HKi:=uZ (fun i:Gr w3=>hkc i.W i.g);have KKi:=uZ (fun i:Gr w3=>KK.out i.W (G3.out.trans i.g));have HQ4:=uZ hq4;clear hkc hq4 KK;obtain⟨Ak,ck,rfl⟩:=aJ hk3.own;have f6:=Gr.cell hk3.cell;generalize (aB t 0).length=Lk at f6 HKi;have nX:zF2:=()
   exact s_30
 ·have hz':(op != 0)=true:=by simpa using hz
  go_wp2_with fail;refine(KB.out _ G1.out).mono ?_;rintro e w2 ⟨rfl,g2⟩;have B2:=uZ (B1.out.trans g2);have G2:=h_231;clear g2 o3 o4 o5 o6 o7 o8;obtain⟨o3,o4,o5,o6,o7,o8⟩:=HC.out w2 B2.out;dsimp only
  cases A with
  | none =>
   obtain rfl:=H2.out b_46 ⟨hz,hA.symm⟩;go_wp2;go_ret;exact⟨rfl,HG.out.trans G2.out,fun h=>by cases h⟩
  | some a =>
   obtain rfl:q2=true:=hA.symm;have HNO:RowKit.Hid (¬ (op≠0∧true=false)):=fun h=>by have:=h.2;cases this
   obtain⟨hp1,hp2⟩:=HFP.out HNO.out;have KSS:=uZ (KS.out hp1);obtain⟨ab,ao,kv,hkat,hKK⟩:=HKA.out hp2;have HKAT:=uZ hkat
   have KK:=uZ hKK;clear hkat hKK;generalize hq3:dC t op ol=q3 at KSS H3 H4 H5 H6 H7;clear hq3;go_wp2_with fail;refine(KSS.out _ G2.out).mono ?_;rintro e w3 ⟨rfl,g3⟩;have B3:=uZ (B2.out.trans g3);have G3:=h_232;clear g3 o3 o4 o5 o6 o7 o8;obtain⟨o3,o4,o5,o6,o7,o8⟩:=HC.out w3 B3.out;dsimp only;cases q3
   case false =>
    exact c_93
   by_cases hb0:ob=0
   case pos =>
    subst hb0;have HNB:RowKit.Hid (¬ ((0:Int)≠0∧(0:Int)∉aB t op)):=fun h=>h.1 rfl
    go_wp2_with fail;refine dD w3 (by kernel_rfl) (by kernel_rfl) (uX _) ?_;have f5:=Gr.cell o5
    repeat (first|go_big_quiet_step (fail)|quiet_step (fail))
    refine wpQuiet_nil ?_;intro _ hw';obtain⟨wi,rfl⟩:=hw';have g4:=wi.g;clear f5;have B4:=uZ (B3.out.trans g4);have G4:=uZ (G3.out.trans g4);clear g4 o3 o4 o5 o6 o7 o8;obtain⟨o3,o4,o5,o6,o7,o8⟩:=HC.out wi.W B4.out;have nX:zFt:=()
    exact s_26
   case neg =>
    have hb0':(ob != 0)=true:=by simpa using hb0
    have hk3:=HKAT.out.grew G3.out;have hkc:=xL hk3 ob;obtain⟨q4,hq4⟩:∃ q,(aB t op).any (fun y=>(ob == y))=q:=⟨_,rfl⟩
    rw[hq4] at hkc;have HKi:=uZ (fun i:Gr w3=>hkc i.W i.g);have KKi:=uZ (fun i:Gr w3=>KK.out i.W (G3.out.trans i.g));have HQ4:=uZ hq4;clear hkc hq4 KK;obtain⟨Ak,ck,rfl⟩:=aJ hk3.own;have f6:=Gr.cell hk3.cell;generalize (aB t op).length=Lk at f6 HKi;have nX:zF3:=()
    exact s_30
end
end Go.Proofs.YtdochkemaiokfaaGreat