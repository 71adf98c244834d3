/- Lemmas on what the functions of the program and of the library compute: Fm1. The conditions stand at each. -/
import Derived.Test.YtdochkemaiokfaaGreatQ1
import Derived.Test.YtdochkemaiokfaaGreatQ9
import Derived.Test.YtdochkemaiokfaaGreatQ3
set_option maxHeartbeats 16000000
set_option maxRecDepth 100000
set_option linter.all false
namespace Go.Proofs.YtdochkemaiokfaaGreat
open Go.RowKit
theorem c_118 {p:Prop} (h:p:=by
 go_enter Tryz.func140,Tryz.ntmps140;go_wp2;go_ret;exact⟨rfl,uX w⟩
):p:=h
theorem kZ (n lo hi:Int) (w:World):Calls Tryz.prog 139 #[.int .i64 n,.int .i64 lo,.int .i64 hi] w fun e w'=>e=.returned (.bool (aN n lo hi))∧w=w':=by
 unfold aN;cases a1:decide (lo≤n)<;>cases a2:decide (n≤hi)
 all_goals
  go_enter Tryz.func139,Tryz.ntmps139;exact c_130
theorem bAd (x:Nat) (w:World):Calls Tryz.prog 194 (#[.int .i32 (x:Int)] ++ #[]) w fun e w'=>e=.returned (.bool (eF 32 126 x))∧Below w.heap.size w w':=by
 have e1:decide (x<32)=decide ((x:Int)<32):=by simp only [decide_eq_decide];omega
 have e2:=h_126;unfold eF;rw[e1,e2];clear e1 e2;cases a1:decide ((x:Int)<32)<;>cases a2:decide ((126:Int)<(x:Int))
 all_goals
  go_enter Tryz.func194,Tryz.ntmps194;go_wp2;go_ret;exact⟨rfl,Below.refl _ _⟩
theorem xY:∀ args w,(callFunc 194 args).run Tryz.prog w=.ok (.enter 194 args) w:=enters_of Tryz.func194 (by kernel_rfl) rfl
theorem aRo (s:ByteArray) (w:World):Calls Tryz.prog 193 #[.string s,.func (.func 194) #[] #[]] w fun e w'=>e=.returned (.bool (!iB 32 126 s.data.toList))∧aA w w':=by
 rw[← kY 32 126 b_53 s];exact Tryz.strings_ContainsFunc_grows _ #[] xY (eF 32 126) s w (fun W x _ _=>bAd x W)
theorem bCv (s:ByteArray) (w:World) (hE:Env w):Calls Tryz.prog 140 #[.string s] w fun e w'=>e=.returned (.bool (fB s.data.toList))∧aA w w':=by
 have hsd:=fM s;by_cases h0:s.size<1
 ·have hN:fB s.data.toList=false:=by simp only [fB,hsd];rw[decide_eq_false b_53];rfl
  rw[hN];have h0':(s.size:Int)<1:=by omega
  clear hsd hN hE;exact c_118
 have h0':=h_188;by_cases h1:64<s.size
 ·have hN:fB s.data.toList=false:=by simp only [fB,hsd];rw[decide_eq_false b_53];rfl
  rw[hN];have h1':(64:Int)<(s.size:Int):=by omega
  clear hsd hN hE;exact c_118
 have h1':=h_166;have hz0:0<s.size:=by omega
 have hs64:s.size≤64:=by omega
 have hz1:s.size-1<s.size:=by omega
 have hN:=h_34;rw[hN];have hi1:(0:Int)≤(s.size:Int)-1:=by omega
 have hi2:(s.size:Int)-1<(s.size:Int):=by omega
 obtain⟨⟨m,hm⟩,-⟩:=hE;have kc:=h_14;have kf:=aRo s w;generalize Lib.contains s.data.toList [32,32]=c at kc;generalize iB 32 126 s.data.toList=al at kf;have KC:=uZ kc;have KF:=uZ kf;clear hsd hN kc kf h0 h1 hm
 cases a1:((s[0].toNat:Int) == 32) with
 | true =>
  exact c_118
 | false =>
 cases a2:((s[s.size-1].toNat:Int) == 32) with
 | true =>
  exact c_118
 | false =>
 cases c with
 | true =>
  go_enter Tryz.func140,Tryz.ntmps140;go_wp2_with (first|(go_at_call 192;refine KC.out.mono ?_;rintro e w1 ⟨rfl,rfl⟩))
  go_ret;exact⟨rfl,uX w⟩
 | false =>
  go_enter Tryz.func140,Tryz.ntmps140;exact c_76
theorem bAe (x:Nat) (w:World):Calls Tryz.prog 195 (#[.int .i32 (x:Int)] ++ #[]) w fun e w'=>e=.returned (.bool (eF 33 126 x))∧Below w.heap.size w w':=by
 have e1:decide (x<33)=decide ((x:Int)<33):=by simp only [decide_eq_decide];omega
 have e2:=h_126;unfold eF;rw[e1,e2];clear e1 e2;cases a1:decide ((x:Int)<33)<;>cases a2:decide ((126:Int)<(x:Int))
 all_goals
  go_enter Tryz.func195,Tryz.ntmps195;go_wp2;go_ret;exact⟨rfl,Below.refl _ _⟩
theorem xZ:∀ args w,(callFunc 195 args).run Tryz.prog w=.ok (.enter 195 args) w:=enters_of Tryz.func195 (by kernel_rfl) rfl
theorem aRp (s:ByteArray) (w:World):Calls Tryz.prog 193 #[.string s,.func (.func 195) #[] #[]] w fun e w'=>e=.returned (.bool (!iB 33 126 s.data.toList))∧aA w w':=by
 rw[← kY 33 126 b_53 s];exact Tryz.strings_ContainsFunc_grows _ #[] xZ (eF 33 126) s w (fun W x _ _=>bAe x W)
theorem bCw (s:ByteArray) (w:World):Calls Tryz.prog 141 #[.string s] w fun e w'=>e=.returned (.bool (tY s.data.toList))∧aA w w':=by
 have hN:tY s.data.toList=(decide ((s.size:Int)≤64) && iB 33 126 s.data.toList):=by
  unfold tY;rw[fM]
  congr 1
  rw[Bool.eq_iff_iff,decide_eq_true_eq,decide_eq_true_eq];omega
 rw[hN];have kf:=aRp s w;generalize iB 33 126 s.data.toList=al at kf;have KF:=uZ kf;clear kf hN
 cases a1:decide ((s.size:Int)≤64) with
 | false =>
  go_enter Tryz.func141,Tryz.ntmps141;exact c_129
 | true =>
  go_enter Tryz.func141,Tryz.ntmps141;go_wp2_with (first|(go_at_call 193;refine KF.out.mono ?_;rintro e w2 ⟨rfl,hg⟩))
  go_ret;exact⟨aV b_54,hg⟩
theorem aWh (f a n:Int) (w:World):Calls Tryz.prog 142 #[.agg #[.int .i64 f,.int .i64 a,.int .i64 n]] w fun e w'=>e=.returned (.bool (iU f a n))∧aA w w':=by
 have k1:=fun W=>kZ f 0 1073741824 W
 have k2:=fun W=>kZ a 1 1073741824 W
 have k3:=fun W=>kZ n 1 9999 W
 unfold iU;generalize aN f 0 1073741824=b1 at k1;generalize aN a 1 1073741824=b2 at k2;generalize aN n 1 9999=b3 at k3;have K1:=uZ k1;have K2:=uZ k2;have K3:=uZ k3;clear k1 k2 k3;cases b1<;>cases b2<;>cases b3<;>cases a4:(a == 0)<;>cases a5:(n == 0)
 all_goals
  go_enter Tryz.func142,Tryz.ntmps142;go_wp2_with (first|(go_at_call 139;(first|(with_reducible refine(K1.out _).mono ?_;rintro e w1 ⟨rfl,rfl⟩)|(with_reducible refine(K2.out _).mono ?_;rintro e w1 ⟨rfl,rfl⟩)|(with_reducible refine(K3.out _).mono ?_;rintro e w1 ⟨rfl,rfl⟩))))
  go_ret;exact⟨rfl,(uX w).alloc _⟩
end Go.Proofs.YtdochkemaiokfaaGreat