/- Lemmas on what the functions of the program and of the library compute: EqO. The conditions stand at each. -/
import Derived.Test.YtafncfomiolmgaaGreatDoorQ4
import Derived.Test.YtafncfomiolmgaaGreatDoorQ9
namespace Go.Proofs.YtafncfomiolmgaaGreatDoor
open Go.RowKit
theorem ifok {p:Prop} [Decidable p] {q b:Bool} {X:Result Value} {w:World} (h:X=.ok (.bool b) w) (hq:q=decide p:=by first|rfl|rw[Bool.eq_iff_iff,beq_iff_eq,decide_eq_true_eq]):(if p then X else .ok (.bool false) w)=.ok (.bool (q && b)) w:=by
 subst hq
 by_cases hp:p
 ·rw[if_pos hp,h,decide_eq_true hp]
  rfl
 ·rw[if_neg hp,decide_eq_false hp]
  rfl
theorem iflast {p:Prop} [Decidable p] {q:Bool} {w:World} (hq:q=decide p:=by first|rfl|rw[Bool.eq_iff_iff,beq_iff_eq,decide_eq_true_eq]):(if p then Result.ok (Value.bool true) w else .ok (.bool false) w)=.ok (.bool q) w:=by
 subst hq
 by_cases hp:p
 ·rw[if_pos hp,decide_eq_true hp]
 ·rw[if_neg hp,decide_eq_false hp]
@[go_sem ↓] theorem eqlO (w:World) (x0 y0 x1 y1 x2 y2 x3 y3 x4 y4 x5 y5 x6 y6:Int) (x7 y7 x8 y8:ByteArray) (x9 y9 x10 y10 x11 y11:Int):(binOp .eql 25 (.agg #[.int .i64 x0,.int .i64 x1,.int .i64 x2,.int .i64 x3,.int .i64 x4,.int .i64 x5,.int .i64 x6,.string x7,.string x8,.int .i64 x9,.int .i64 x10,.int .i64 x11]) (.agg #[.int .i64 y0,.int .i64 y1,.int .i64 y2,.int .i64 y3,.int .i64 y4,.int .i64 y5,.int .i64 y6,.string y7,.string y8,.int .i64 y9,.int .i64 y10,.int .i64 y11])).run Tryz.prog w=.ok (.bool ((x0 == y0) && ((x1 == y1) && ((x2 == y2) && ((x3 == y3) && ((x4 == y4) && ((x5 == y5) && ((x6 == y6) && ((x7.toList == y7.toList) && ((x8.toList == y8.toList) && ((x9 == y9) && ((x10 == y10) && (x11 == y11))))))))))))) w:=by
 have hS:Tryz.prog.underlying 25=some (.struct (Tryz.prog.fieldsOf 25)):=by kernel_rfl
 have hp:Tryz.prog.stoodInHeld 25=false:=by kernel_rfl
 rw[run_eql_struct,show(10000:Nat)=9999+1 from rfl,run_equalIn_agg w 9999 25 _ _ hS hp]
 simp only [Program.fieldsOf,Tryz.underlying25]
 go_simp
 exact ifok (ifok (ifok (ifok (ifok (ifok (ifok (ifok (ifok (ifok (ifok iflast))))))))))
end Go.Proofs.YtafncfomiolmgaaGreatDoor