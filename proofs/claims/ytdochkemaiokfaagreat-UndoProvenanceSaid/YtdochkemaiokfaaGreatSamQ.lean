/- The references' comparisons of lists, walked where both hold the same: operations, evidence, ledgers. No condition. -/
import Derived.BigQuiet
import Derived.Test.YtdochkemaiokfaaGreatQ10
namespace Go.Proofs.YtdochkemaiokfaaGreat
open Go.RowKit
theorem neqCself (w:World) (x0:Int) (x1:Int) (x2:Int) (x3:Int):(binOp .neq 69 (.agg #[.int .i64 x0,.int .i64 x1,.int .i64 x2,.int .i64 x3]) (.agg #[.int .i64 x0,.int .i64 x1,.int .i64 x2,.int .i64 x3])).run Tryz.prog w=.ok (.bool false) w:=by
 have hS:Tryz.prog.underlying 69=some (.struct (Tryz.prog.fieldsOf 69)):=by kernel_rfl
 have hp:Tryz.prog.stoodInHeld 69=false:=by kernel_rfl
 rw[run_neq_struct,show(10000:Nat)=9999+1 from rfl,run_equalIn_agg w 9999 69 _ _ hS hp]
 simp only [Program.fieldsOf,Tryz.underlying69]
 go_simp
set_option maxHeartbeats 4000000 in
set_option maxRecDepth 100000 in
theorem samC (l:List Cm) (v u:Value) (w:World) (hv:SlC w v l) (hu:SlC w u l) :
  Calls Tryz.prog 32 #[v,u] w fun e w'=>e=.returned (.bool true)∧Grew w w':=by
 obtain⟨A,c,rfl,hlc,hc,hr⟩:=hv.open_
 obtain⟨A',c',rfl,hlc',hc',hr'⟩:=hu.open_
 unfold maxLen at hc hc'
 have HR:=Lib.hid hr
 have HR':=Lib.hid hr'
 have hne:((l.length:Int) != (l.length:Int))=false:=by simp
 clear hr hr' hv hu
 go_enter Tryz.func32,Tryz.ntmps32
 go_wp2
 go_loopg [5] l.length (fun gg s wr=>∃ kk:Nat,kk≤l.length∧l.length-kk≤gg∧s=.int .i64 kk∧Aside (Grew w wr))
 case atStart=>exact⟨0,Nat.zero_le _,by omega,rfl,(show Aside _ from Grew.refl w)⟩
 case round =>
  obtain⟨kk,hkk,hg,rfl,BW⟩:=hrel
  by_cases hlt:kk<l.length
  ·have hltz:(kk:Int)<(l.length:Int):=by omega
   have h0z:(0:Int)≤(kk:Int):=by omega
   obtain⟨b,off,rfl,hb,hcell⟩:=HR.out (by omega)
   obtain⟨b',off',rfl,hb',hcell'⟩:=HR'.out (by omega)
   obtain⟨c0,c1,c2,c3⟩:=hcell wr BW.out kk hlt
   obtain⟨d0,d1,d2,d3⟩:=hcell' wr BW.out kk hlt
   clear hcell hcell'
   generalize l[kk]=y at c0 c1 c2 c3 d0 d1 d2 d3
   obtain⟨x0,x1,x2,x3⟩:=y
   dsimp only at c0 c1 c2 c3 d0 d1 d2 d3
   have kN:=fun w=>neqCself w x0 x1 x2 x3
   go_wp2
   go_quiet (fail)
   go_wp2
   go_roundg (l.length-(kk+1))
   case measure=>omega
   case rel=>exact⟨kk+1,by omega,by omega,by go_num,(show Aside _ from BW.out.drewN _)⟩
  ·have hltz:¬ (kk:Int)<(l.length:Int):=by omega
   go_wp2
   go_ret
   exact⟨rfl,BW.out⟩
end Go.Proofs.YtdochkemaiokfaaGreat