/- The references' comparisons of lists, walked where both hold the same: operations, evidence, ledgers. No condition. -/
import Derived.BigQuiet
import Derived.Test.YtdochkemaiokfaaGreatQ10
import Derived.Test.YtdochkemaiokfaaGreatQ1
import Derived.Test.YtdochkemaiokfaaGreatQ3
set_option maxHeartbeats 16000000
set_option maxRecDepth 100000
set_option linter.all false
namespace Go.Proofs.YtdochkemaiokfaaGreat
open Go.RowKit
theorem c_81 {p:Prop} (h:p:=by
 go_wp2;go_quiet (fail);go_wp2;go_roundg (l.length-(kk+1))
 case measure=>omega
 case rel=>exact⟨kk+1,by omega,by omega,by go_num,(show Aside _ from BW.out.drewN _)⟩
):p:=h
theorem aQm (w:World) (x0:Int) (x1:Int) (x2:Int) (x3:Int) (x4:Int) (x5:Int) (x6:Int) (x7:ByteArray) (x8:ByteArray) (x9:Int) (x10:Int) (x11:Int):(binOp .neq 26 (.agg #[.int .i64 x0,.int .i64 x1,.int .i64 x2,.int .i64 x3,.int .i64 x4,.int .i64 x5,.int .i64 x6,.string x7,.string x8,.int .i64 x9,.int .i64 x10,.int .i64 x11]) (.agg #[.int .i64 x0,.int .i64 x1,.int .i64 x2,.int .i64 x3,.int .i64 x4,.int .i64 x5,.int .i64 x6,.string x7,.string x8,.int .i64 x9,.int .i64 x10,.int .i64 x11])).run Tryz.prog w=.ok (.bool false) w:=by
 have hS:Tryz.prog.underlying 26=some (.struct (Tryz.prog.fieldsOf 26)):=by kernel_rfl
 have hp:Tryz.prog.stoodInHeld 26=false:=by kernel_rfl
 rw[run_neq_struct,show(10000:Nat)=9999+1 from rfl,run_equalIn_agg w 9999 26 _ _ hS hp];simp only [Program.fieldsOf,Tryz.underlying26];go_simp
def zIe:=Unit
theorem zIe.g {p:Prop} (_:zIe) (h:p:=by
 have hne:=h_173;clear hr hr' hv hu;go_enter Tryz.func19,Tryz.ntmps19;go_wp2;go_loopg [5] l.length (fun gg s wr=>∃ kk:Nat,kk≤l.length∧l.length-kk≤gg∧s=.int .i64 kk∧Aside (aA w wr))
 case atStart=>exact⟨0,Nat.zero_le _,by omega,rfl,(show Aside _ from uX w)⟩
 case round =>
  obtain⟨kk,hkk,hg,rfl,BW⟩:=hrel;by_cases hlt:kk<l.length
  ·have hltz:(kk:Int)<(l.length:Int):=by omega
   have h0z:=h_214;obtain⟨b,off,rfl,hb,hcell⟩:=HR.out b_53;obtain⟨b',off',rfl,hb',hcell'⟩:=HR'.out b_53;obtain⟨c0,c1,c2,c3,c4,c5,c6,c7,c8,c9,c10,c11⟩:=hcell wr BW.out kk hlt;obtain⟨d0,d1,d2,d3,d4,d5,d6,d7,d8,d9,d10,d11⟩:=hcell' wr BW.out kk hlt;clear hcell hcell';generalize l[kk]=y at c0 c1 c2 c3 c4 c5 c6 c7 c8 c9 c10 c11 d0 d1 d2 d3 d4 d5 d6 d7 d8 d9 d10 d11;obtain⟨x0,x1,x2,x3,x4,x5,x6,x7,x8,x9,x10,x11⟩:=y;dsimp only at c0 c1 c2 c3 c4 c5 c6 c7 c8 c9 c10 c11 d0 d1 d2 d3 d4 d5 d6 d7 d8 d9 d10 d11;have kN:=fun w=>aQm w x0 x1 x2 x3 x4 x5 x6 x7 x8 x9 x10 x11
   exact c_81
  ·have hltz:¬ (kk:Int)<(l.length:Int):=by omega
   go_wp2;go_ret;exact⟨rfl,BW.out⟩
):p:=h
theorem bEe (l:List Opn) (v u:Value) (w:World) (hv:SlO w v l) (hu:SlO w u l) :
  Calls Tryz.prog 19 #[v,u] w fun e w'=>e=.returned (.bool true)∧aA w w':=by
 have nX:zIe:=()
 exact s_57
theorem aQo (w:World) (x0:Int) (x1:Int) (x2:Int) (x3:Int):(binOp .neq 69 (.agg #[.int .i64 x0,.int .i64 x1,.int .i64 x2,.int .i64 x3]) (.agg #[.int .i64 x0,.int .i64 x1,.int .i64 x2,.int .i64 x3])).run Tryz.prog w=.ok (.bool false) w:=by
 have hS:Tryz.prog.underlying 69=some (.struct (Tryz.prog.fieldsOf 69)):=by kernel_rfl
 have hp:Tryz.prog.stoodInHeld 69=false:=by kernel_rfl
 rw[run_neq_struct,show(10000:Nat)=9999+1 from rfl,run_equalIn_agg w 9999 69 _ _ hS hp];simp only [Program.fieldsOf,Tryz.underlying69];go_simp
def zIf:=Unit
theorem zIf.g {p:Prop} (_:zIf) (h:p:=by
 have hne:=h_173;clear hr hr' hv hu;go_enter Tryz.func32,Tryz.ntmps32;go_wp2;go_loopg [5] l.length (fun gg s wr=>∃ kk:Nat,kk≤l.length∧l.length-kk≤gg∧s=.int .i64 kk∧Aside (aA w wr))
 case atStart=>exact⟨0,Nat.zero_le _,by omega,rfl,(show Aside _ from uX w)⟩
 case round =>
  obtain⟨kk,hkk,hg,rfl,BW⟩:=hrel;by_cases hlt:kk<l.length
  ·have hltz:(kk:Int)<(l.length:Int):=by omega
   have h0z:=h_214;obtain⟨b,off,rfl,hb,hcell⟩:=HR.out b_53;obtain⟨b',off',rfl,hb',hcell'⟩:=HR'.out b_53;obtain⟨c0,c1,c2,c3⟩:=hcell wr BW.out kk hlt;obtain⟨d0,d1,d2,d3⟩:=hcell' wr BW.out kk hlt;clear hcell hcell';generalize l[kk]=y at c0 c1 c2 c3 d0 d1 d2 d3;obtain⟨x0,x1,x2,x3⟩:=y;dsimp only at c0 c1 c2 c3 d0 d1 d2 d3;have kN:=fun w=>aQo w x0 x1 x2 x3
   exact c_81
  ·have hltz:¬ (kk:Int)<(l.length:Int):=by omega
   go_wp2;go_ret;exact⟨rfl,BW.out⟩
):p:=h
theorem bEg (l:List Cm) (v u:Value) (w:World) (hv:SlC w v l) (hu:SlC w u l) :
  Calls Tryz.prog 32 #[v,u] w fun e w'=>e=.returned (.bool true)∧aA w w':=by
 have nX:zIf:=()
 exact s_57
theorem aQn (w:World) (x0:ByteArray) (x1:Int):(binOp .neq 62 (.agg #[.string x0,.int .i64 x1]) (.agg #[.string x0,.int .i64 x1])).run Tryz.prog w=.ok (.bool false) w:=by
 have hS:=h_138;have hp:Tryz.prog.stoodInHeld 62=false:=by kernel_rfl
 rw[run_neq_struct,show(10000:Nat)=9999+1 from rfl,run_equalIn_agg w 9999 62 _ _ hS hp];simp only [Program.fieldsOf,Tryz.underlying62];go_simp
def zIg:=Unit
theorem zIg.g {p:Prop} (_:zIg) (h:p:=by
 have hne:=h_173;clear hr hr' hv hu;go_enter Tryz.func33,Tryz.ntmps33;go_wp2;go_loopg [5] l.length (fun gg s wr=>∃ kk:Nat,kk≤l.length∧l.length-kk≤gg∧s=.int .i64 kk∧Aside (aA w wr))
 case atStart=>exact⟨0,Nat.zero_le _,by omega,rfl,(show Aside _ from uX w)⟩
 case round =>
  obtain⟨kk,hkk,hg,rfl,BW⟩:=hrel;by_cases hlt:kk<l.length
  ·have hltz:(kk:Int)<(l.length:Int):=by omega
   have h0z:=h_214;obtain⟨b,off,rfl,hb,hcell⟩:=HR.out b_53;obtain⟨b',off',rfl,hb',hcell'⟩:=HR'.out b_53;obtain⟨c0,c1⟩:=hcell wr BW.out kk hlt;obtain⟨d0,d1⟩:=hcell' wr BW.out kk hlt;clear hcell hcell';generalize l[kk]=y at c0 c1 d0 d1;obtain⟨x0,x1⟩:=y;dsimp only at c0 c1 d0 d1;have kN:=fun w=>aQn w x0 x1
   exact c_81
  ·have hltz:¬ (kk:Int)<(l.length:Int):=by omega
   go_wp2;go_ret;exact⟨rfl,BW.out⟩
):p:=h
theorem bEf (l:List Mk) (v u:Value) (w:World) (hv:SlM w v l) (hu:SlM w u l) :
  Calls Tryz.prog 33 #[v,u] w fun e w'=>e=.returned (.bool true)∧aA w w':=by
 have nX:zIg:=()
 exact s_57
end Go.Proofs.YtdochkemaiokfaaGreat