/- tree: right, Find, walked. The conditions: the library's own variables hold what they must; the lists are short. -/
import Derived.Test.YtdochkemaiokfaaGreatQ3
namespace Go.Proofs.YtdochkemaiokfaaGreat
open Go.RowKit
def RetB (P:Prop) (w:World) (e:Ending) (w':World):Prop:=∃ b:Bool,e=.returned (.bool b)∧(b=true↔P)∧Grew w w'
theorem tRight (rs:List Int) (l:List Br) (rv bv:Value) (w:World) (hE:Env w) (hr:SlI w rv rs) (hv:SlBr w bv l) (hf:FewBr l) (hrl:rs.length≤1000000) :
  Calls Tryz.prog 239 #[.agg #[rv,bv]] w (RetB (RightT ⟨rs,l⟩) w):=by
 have K:=Lib.hid (fun W (hW:Grew w W)=>tCheck rs l rv bv W (hE.mono hW) (hr.mono hW) (hv.mono hW) hf hrl)
 clear hE hr hv hf hrl
 go_enter Tryz.func239,Tryz.ntmps239
 go_wp2_with fail
 refine(K.out _ ((Grew.refl w).alloc _)).mono ?_
 rintro e w1 ⟨i,n,rfl,hn,g⟩
 have HN:=Lib.hid hn
 have HG:=Lib.hid (((Grew.refl w).alloc _).trans g)
 clear hn g
 dsimp only
 cases hz:(n == 0)
 ·go_wp2
  go_ret
  exact⟨false,rfl,⟨(fun h=>by cases h),(fun h=>by rw[HN.out.2 h] at hz;cases hz)⟩,HG.out⟩
 ·go_wp2
  go_ret
  exact⟨true,rfl,⟨fun _=>HN.out.1 (by simpa using hz),fun _=>rfl⟩,HG.out⟩
def br0:Br:=⟨0,0,0,⟨#[]⟩,⟨#[]⟩,[]⟩
def TFindEnd (o:Option Br) (w:World) (e:Ending) (w':World):Prop :=
 e=.returned (.tuple #[.agg #[.int .i64 (o.getD br0).id,.int .i64 (o.getD br0).parent,.int .i64 (o.getD br0).level,.string (o.getD br0).title,.string (o.getD br0).mark],.bool o.isSome])∧Grew w w'
set_option maxHeartbeats 2000000 in
theorem tFind (l:List Br) (id:Int) (rv bv:Value) (w:World) (hv:SlBr w bv l):Calls Tryz.prog 40 #[.agg #[rv,bv],.int .i64 id] w (TFindEnd (brFind l id) w):=by
 have HV:=Lib.hid hv
 have kI:=fun W (hW:Grew w W)=>tIndex l id rv bv W (HV.out.mono hW)
 cases ho:brFind l id with
 | none =>
  rw[brIdx_none ho] at kI
  have KI:=Lib.hid kI
  clear kI ho hv
  go_enter Tryz.func40,Tryz.ntmps40
  go_wp2_with fail
  refine(KI.out _ (((Grew.refl w).alloc _).alloc _)).mono ?_
  rintro e w1 ⟨rfl,g1⟩
  have hz1:w.heap.size+1<w1.heap.size:=Nat.lt_of_lt_of_le (by simp) g1.size
  obtain⟨hc1,hf1⟩:=g1.cells
  have HG1:=Lib.hid g1
  clear g1
  dsimp only
  go_wp2
  refine bodyPost_ret (v:=.tuple #[.agg #[.int .i64 0,.int .i64 0,.int .i64 0,.string ⟨#[]⟩,.string ⟨#[]⟩],.bool false]) (by simp[results,Tryz.results40,go_sem,hc1]) rfl ⟨rfl,?_⟩
  repeat (with_reducible refine Grew.setCell ?_ (by simp) _)
  exact(((Grew.refl w).alloc _).alloc _).trans HG1.out
 | some p =>
  obtain⟨k,hk,ek,rfl⟩:=brIdx_some ho
  rw[ek] at kI
  obtain⟨A,c,rfl,hlc,hc,hr⟩:=hv.open_
  unfold maxLen at hc
  obtain⟨bb,off,rfl,hbk,hcell⟩:=hr (by omega)
  obtain⟨kv,-,hcl⟩:=hcell k hk
  have KI:=Lib.hid kI
  have HCL:=Lib.hid hcl
  have hkz:(k:Int)<(l.length:Int):=by omega
  have h0z:(0:Int)≤(k:Int):=by omega
  have hneg:¬ (k:Int)<0:=by omega
  generalize l[k]=y at HCL
  obtain⟨yi,yp,yl,yt,ym,yk⟩:=y
  dsimp only at HCL
  clear kI ho hv ek hcell hcl hr
  go_enter Tryz.func40,Tryz.ntmps40
  go_wp2_with fail
  refine(KI.out _ (((Grew.refl w).alloc _).alloc _)).mono ?_
  rintro e w1 ⟨rfl,g1⟩
  have hz1:w.heap.size+1<w1.heap.size:=Nat.lt_of_lt_of_le (by simp) g1.size
  have hy1:w.heap.size<w1.heap.size:=by omega
  have HW1:=Lib.hid ((((Grew.refl w).alloc _).alloc _).trans g1)
  obtain⟨c0,c1,c2,c3,c4,-⟩:=HCL.out w1 HW1.out
  obtain⟨hc1,hf1⟩:=g1.cells
  clear g1
  dsimp only
  go_wp2
  refine bodyPost_ret (v:=.tuple #[.agg #[.int .i64 yi,.int .i64 yp,.int .i64 yl,.string yt,.string ym],.bool true]) (by simp[results,Tryz.results40,go_sem,hc1]) rfl ⟨rfl,?_⟩
  repeat (with_reducible refine Grew.setCell ?_ (by simp) _)
  exact HW1.out
end Go.Proofs.YtdochkemaiokfaaGreat