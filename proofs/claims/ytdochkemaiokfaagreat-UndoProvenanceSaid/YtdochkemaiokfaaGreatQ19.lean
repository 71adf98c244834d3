/- Lemmas on what the functions of the program and of the library compute: Fm1. The conditions stand at each. -/
import Derived.Test.YtdochkemaiokfaaGreatQ1
import Derived.Test.YtdochkemaiokfaaGreatQ8
/- rearrange: within, name, mark, origin, walked. The condition on names: the library's own variable holds a number. -/
namespace Go.Proofs.YtdochkemaiokfaaGreat
open Go.RowKit
theorem fWithin (n lo hi:Int) (w:World):Calls Tryz.prog 139 #[.int .i64 n,.int .i64 lo,.int .i64 hi] w fun e w'=>e=.returned (.bool (within n lo hi))∧w=w':=by
 unfold within
 cases a1:decide (lo≤n)<;>cases a2:decide (n≤hi)
 all_goals
  go_enter Tryz.func139,Tryz.ntmps139
  go_wp2
  go_ret
  exact⟨rfl,rfl⟩
theorem fName1 (x:Nat) (w:World):Calls Tryz.prog 194 (#[.int .i32 (x:Int)] ++ #[]) w fun e w'=>e=.returned (.bool (strange 32 126 x))∧Below w.heap.size w w':=by
 have e1:decide (x<32)=decide ((x:Int)<32):=by simp only [decide_eq_decide];omega
 have e2:decide (126<x)=decide ((126:Int)<(x:Int)):=by simp only [decide_eq_decide];omega
 unfold strange
 rw[e1,e2]
 clear e1 e2
 cases a1:decide ((x:Int)<32)<;>cases a2:decide ((126:Int)<(x:Int))
 all_goals
  go_enter Tryz.func194,Tryz.ntmps194
  go_wp2
  go_ret
  exact⟨rfl,Below.refl _ _⟩
theorem enters_fName1:∀ args w,(callFunc 194 args).run Tryz.prog w=.ok (.enter 194 args) w:=enters_of Tryz.func194 (by kernel_rfl) rfl
theorem fNameAll (s:ByteArray) (w:World):Calls Tryz.prog 193 #[.string s,.func (.func 194) #[] #[]] w fun e w'=>e=.returned (.bool (!allIn 32 126 s.data.toList))∧Grew w w':=by
 rw[← idx_strange 32 126 (by omega) s]
 exact Tryz.strings_ContainsFunc_grows _ #[] enters_fName1 (strange 32 126) s w (fun W x _ _=>fName1 x W)
set_option maxHeartbeats 2000000 in
theorem fName (s:ByteArray) (w:World) (hE:Env w):Calls Tryz.prog 140 #[.string s] w fun e w'=>e=.returned (.bool (nameF s.data.toList))∧Grew w w':=by
 have hsd:=size_data s
 by_cases h0:s.size<1
 ·have hN:nameF s.data.toList=false:=by simp only [nameF,hsd];rw[decide_eq_false (by omega)];rfl
  rw[hN]
  have h0':(s.size:Int)<1:=by omega
  clear hsd hN hE
  go_enter Tryz.func140,Tryz.ntmps140
  go_wp2
  go_ret
  exact⟨rfl,Grew.refl w⟩
 have h0':decide ((s.size:Int)<1)=false:=by simp;omega
 by_cases h1:64<s.size
 ·have hN:nameF s.data.toList=false:=by simp only [nameF,hsd];rw[decide_eq_false (by omega)];rfl
  rw[hN]
  have h1':(64:Int)<(s.size:Int):=by omega
  clear hsd hN hE
  go_enter Tryz.func140,Tryz.ntmps140
  go_wp2
  go_ret
  exact⟨rfl,Grew.refl w⟩
 have h1':decide ((64:Int)<(s.size:Int))=false:=by simp;omega
 have hz0:0<s.size:=by omega
 have hs64:s.size≤64:=by omega
 have hz1:s.size-1<s.size:=by omega
 have hN:nameF s.data.toList=(!((s[0].toNat:Int) == 32) && (!((s[s.size-1].toNat:Int) == 32) && (!Lib.contains s.data.toList [32,32] && allIn 32 126 s.data.toList))):=by
  simp only [nameF,hsd,head_at s hz0,last_at s hz1,is32]
  rw[decide_eq_true (by omega)]
  rfl
 rw[hN]
 have hi1:(0:Int)≤(s.size:Int)-1:=by omega
 have hi2:(s.size:Int)-1<(s.size:Int):=by omega
 obtain⟨⟨m,hm⟩,-⟩:=hE
 have kc:Calls Tryz.prog 192 #[.string s,.string ⟨#[32,32]⟩] w fun e w'=>e=.returned (.bool (Lib.contains s.data.toList [32,32]))∧w=w':=(Tryz.strings_Contains s ⟨#[32,32]⟩ m w (by omega) hm).mono fun _ _ h=>⟨h.1,h.2.symm⟩
 have kf:=fNameAll s w
 generalize Lib.contains s.data.toList [32,32]=c at kc
 generalize allIn 32 126 s.data.toList=al at kf
 have KC:=Lib.hid kc
 have KF:=Lib.hid kf
 clear hsd hN kc kf h0 h1 hm
 cases a1:((s[0].toNat:Int) == 32) with
 | true =>
  go_enter Tryz.func140,Tryz.ntmps140
  go_wp2
  go_ret
  exact⟨rfl,Grew.refl w⟩
 | false =>
 cases a2:((s[s.size-1].toNat:Int) == 32) with
 | true =>
  go_enter Tryz.func140,Tryz.ntmps140
  go_wp2
  go_ret
  exact⟨rfl,Grew.refl w⟩
 | false =>
 cases c with
 | true =>
  go_enter Tryz.func140,Tryz.ntmps140
  go_wp2_with (first|(go_at_call 192;refine KC.out.mono ?_;rintro e w1 ⟨rfl,rfl⟩))
  go_ret
  exact⟨rfl,Grew.refl w⟩
 | false =>
  go_enter Tryz.func140,Tryz.ntmps140
  go_wp2_with (first|(go_at_call 192;refine KC.out.mono ?_;rintro e w1 ⟨rfl,rfl⟩)|(go_at_call 193;refine KF.out.mono ?_;rintro e w2 ⟨rfl,hg⟩))
  go_ret
  exact⟨ret_bool (by simp),hg⟩
theorem fMark1 (x:Nat) (w:World):Calls Tryz.prog 195 (#[.int .i32 (x:Int)] ++ #[]) w fun e w'=>e=.returned (.bool (strange 33 126 x))∧Below w.heap.size w w':=by
 have e1:decide (x<33)=decide ((x:Int)<33):=by simp only [decide_eq_decide];omega
 have e2:decide (126<x)=decide ((126:Int)<(x:Int)):=by simp only [decide_eq_decide];omega
 unfold strange
 rw[e1,e2]
 clear e1 e2
 cases a1:decide ((x:Int)<33)<;>cases a2:decide ((126:Int)<(x:Int))
 all_goals
  go_enter Tryz.func195,Tryz.ntmps195
  go_wp2
  go_ret
  exact⟨rfl,Below.refl _ _⟩
theorem enters_fMark1:∀ args w,(callFunc 195 args).run Tryz.prog w=.ok (.enter 195 args) w:=enters_of Tryz.func195 (by kernel_rfl) rfl
theorem fMarkAll (s:ByteArray) (w:World):Calls Tryz.prog 193 #[.string s,.func (.func 195) #[] #[]] w fun e w'=>e=.returned (.bool (!allIn 33 126 s.data.toList))∧Grew w w':=by
 rw[← idx_strange 33 126 (by omega) s]
 exact Tryz.strings_ContainsFunc_grows _ #[] enters_fMark1 (strange 33 126) s w (fun W x _ _=>fMark1 x W)
theorem fMark (s:ByteArray) (w:World):Calls Tryz.prog 141 #[.string s] w fun e w'=>e=.returned (.bool (markE s.data.toList))∧Grew w w':=by
 have hN:markE s.data.toList=(decide ((s.size:Int)≤64) && allIn 33 126 s.data.toList):=by
  unfold markE
  rw[size_data]
  congr 1
  rw[Bool.eq_iff_iff,decide_eq_true_eq,decide_eq_true_eq]
  omega
 rw[hN]
 have kf:=fMarkAll s w
 generalize allIn 33 126 s.data.toList=al at kf
 have KF:=Lib.hid kf
 clear kf hN
 cases a1:decide ((s.size:Int)≤64) with
 | false =>
  go_enter Tryz.func141,Tryz.ntmps141
  go_wp2
  go_ret
  exact⟨rfl,Grew.refl w⟩
 | true =>
  go_enter Tryz.func141,Tryz.ntmps141
  go_wp2_with (first|(go_at_call 193;refine KF.out.mono ?_;rintro e w2 ⟨rfl,hg⟩))
  go_ret
  exact⟨ret_bool (by simp),hg⟩
set_option maxRecDepth 100000 in
theorem fOrigin (f a n:Int) (w:World):Calls Tryz.prog 142 #[.agg #[.int .i64 f,.int .i64 a,.int .i64 n]] w fun e w'=>e=.returned (.bool (originF f a n))∧Grew w w':=by
 have k1:=fun W=>fWithin f 0 1073741824 W
 have k2:=fun W=>fWithin a 1 1073741824 W
 have k3:=fun W=>fWithin n 1 9999 W
 unfold originF
 generalize within f 0 1073741824=b1 at k1
 generalize within a 1 1073741824=b2 at k2
 generalize within n 1 9999=b3 at k3
 have K1:=Lib.hid k1
 have K2:=Lib.hid k2
 have K3:=Lib.hid k3
 clear k1 k2 k3
 cases b1<;>cases b2<;>cases b3<;>cases a4:(a == 0)<;>cases a5:(n == 0)
 all_goals
  go_enter Tryz.func142,Tryz.ntmps142
  go_wp2_with (first|(go_at_call 139;(first|(with_reducible refine(K1.out _).mono ?_;rintro e w1 ⟨rfl,rfl⟩)|(with_reducible refine(K2.out _).mono ?_;rintro e w1 ⟨rfl,rfl⟩)|(with_reducible refine(K3.out _).mono ?_;rintro e w1 ⟨rfl,rfl⟩))))
  go_ret
  exact⟨rfl,(Grew.refl w).alloc _⟩
end Go.Proofs.YtdochkemaiokfaaGreat