/- Lemmas on what the functions of the program and of the library compute: Lfw. The conditions stand at each. -/
import Derived.Test.YtafncfomiolmgaaGreatDoorQ28
import Derived.Test.YtafncfomiolmgaaGreatDoorQ23
namespace Go.Proofs.YtafncfomiolmgaaGreatDoor
open Go.RowKit
def FewO (o:Opn):Prop:=o.title.size≤100∧o.mark.size≤100
set_option maxHeartbeats 2000000 in
theorem few21_any (o:Opn) (w:World):Calls Tryz.prog 12 #[o.agg] w (YesIf (FewO o) w):=by
 obtain⟨i,d,k,u,p,b,l,tt,m,x9,x10,x11⟩:=o
 unfold Opn.agg
 dsimp only
 by_cases h1:tt.size≤100
 ·have h1z:(tt.size:Int)≤100:=by omega
  by_cases h2:m.size≤100
  ·have h2z:(m.size:Int)≤100:=by omega
   go_enter Tryz.func12,Tryz.ntmps12
   go_wp2
   go_ret
   exact YesIf.yes ⟨h1,h2⟩ ((uX w).alloc _)
  ·have h2z:¬ (m.size:Int)≤100:=by omega
   go_enter Tryz.func12,Tryz.ntmps12
   go_wp2
   go_ret
   exact YesIf.no ((uX w).alloc _)
 ·have h1z:¬ (tt.size:Int)≤100:=by omega
  go_enter Tryz.func12,Tryz.ntmps12
  go_wp2
  go_ret
  exact YesIf.no ((uX w).alloc _)
set_option maxHeartbeats 2000000 in
theorem fewLaw (t:Tr) (o:Opn) (rv bv:Value) (w:World) (hr:SlI w rv t.roots) (hv:SlBr w bv t.brs):Calls Tryz.prog 17 #[.agg #[rv,bv],o.agg] w (YesIf (FewTM t.roots t.brs∧FewO o) w):=by
 have KT:=uZ (fun W (hW:Grew w W)=>few19_m t.roots t.brs rv bv W (hr.mono hW) (hv.mono hW))
 have kO:=fun W=>few21_any o W
 obtain⟨Ar,cr,rfl,-⟩:=hr.open_
 obtain⟨Ab,cb,rfl,-⟩:=hv.open_
 have HB:=uZ (fun(r b:Value) W (g:Grew ((w.alloc (.cells [r,b].toArray 35)).alloc (.cells o.cells.toArray 25)) W)=>opn_all o g)
 clear hr hv
 generalize hFO:FewO o=FO at kO ⊢
 obtain⟨i,d,k,u,p,b,l,tt,m,x9,x10,x11⟩:=o
 unfold Opn.agg at kO ⊢
 unfold Opn.cells at HB
 dsimp only at kO HB ⊢
 have KO:=uZ kO
 clear kO hFO
 go_enter Tryz.func17,Tryz.ntmps17
 go_wp2_with fail
 refine(KT.out _ (((uX w).alloc _).alloc _)).mono ?_
 rintro e w1 ⟨q,rfl,hq,g1⟩
 have HQ:=uZ hq
 have HG1:=uZ ((((uX w).alloc _).alloc _).trans g1)
 obtain⟨a0,a1,a2,a3,a4,a5,a6,a7,a8,a9,a10,a11⟩:=HB.out _ _ w1 g1
 rw[size_allocB] at a0 a1 a2 a3 a4 a5 a6 a7 a8 a9 a10 a11
 clear hq g1
 dsimp only
 cases q
 ·go_wp2
  go_ret
  exact YesIf.no HG1.out
 ·have HT:=uZ (HQ.out rfl)
  clear HQ
  go_wp2_with fail
  refine(KO.out _).mono ?_
  rintro e w2 ⟨q2,rfl,hq2,g2⟩
  have HG2:=uZ (HG1.out.trans g2)
  have HQ2:=uZ hq2
  clear hq2 g2
  dsimp only
  cases q2
  ·go_wp2
   go_ret
   exact YesIf.no HG2.out
  ·have HF2:=uZ (HQ2.out rfl)
   clear HQ2
   go_wp2
   go_ret
   exact YesIf.yes ⟨HT.out,HF2.out⟩ HG2.out
end Go.Proofs.YtafncfomiolmgaaGreatDoor