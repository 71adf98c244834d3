/- Lemmas on what the functions of the program and of the library compute: Lcp, Lfw. The conditions stand at each. -/
import Derived.Test.YtdochkemaiokfaaGreatQ13
import Derived.Test.YtdochkemaiokfaaGreatQ22
import Derived.Test.YtdochkemaiokfaaGreatQ8
import Derived.Test.YtdochkemaiokfaaGreatQ23
import Derived.Test.YtdochkemaiokfaaGreatQ9
import Derived.Test.YtdochkemaiokfaaGreatQ24
import Derived.Test.YtdochkemaiokfaaGreatQ20
/- The law's copy of a tree, walked. The condition: the lists are short. -/
namespace Go.Proofs.YtdochkemaiokfaaGreat
open Go.RowKit
theorem Half.out {w0 w:World} {rv bv x y:Value} {cs:List BrC} {t:Tr} {R:Nat} {c:Array Value} (h:Half w0 rv bv cs t t.brs.length w) (hR:w.heap[R]? = some (.cells c 43 (0,0))):TrOk ((w.setCell ⟨R,0,none⟩ x).setCell ⟨R,1,none⟩ y) rv bv t:=by
 have hR2:=heap_setCell_same w R 0 c 43 x hR
 have key:∀ {b:Nat} {v:Value} {l:List Int},OwnI b w v l→OwnI b ((w.setCell ⟨R,0,none⟩ x).setCell ⟨R,1,none⟩ y) v l:=fun ho=>by
  have h1:=ownsRow_setCell_other (a:=⟨R,0,none⟩) ho (own_ne (g:=R) ho hR ne_IT) x
  exact ownsRow_setCell_other (a:=⟨R,1,none⟩) h1 (own_ne (g:=R) h1 hR2 ne_IT) y
 have hb1:=ownsRow_setCell_other (a:=⟨R,0,none⟩) h.brs (own_ne (g:=R) h.brs hR ne_BT) x
 have hb2:=ownsRow_setCell_other (a:=⟨R,1,none⟩) hb1 (own_ne (g:=R) hb1 hR2 ne_BT) y
 exact⟨Rd.of_own (key h.roots),cs,Rd.of_own hb2,h.len,fun i hi hi'=>⟨(h.each i hi hi').1,Rd.of_own (key ((h.each i hi hi').2.2 hi'))⟩⟩
end Go.Proofs.YtdochkemaiokfaaGreat
/- few and Few, walked. The condition: none but what a slice can be. -/
namespace Go.Proofs.YtdochkemaiokfaaGreat
open Go.RowKit
def FewO (o:Opn):Prop:=o.title.size≤100∧o.mark.size≤100
set_option maxHeartbeats 2000000 in
theorem few21_any (o:Opn) (w:World):Calls Tryz.prog 13 #[o.agg] w (YesIf (FewO o) w):=by
 obtain⟨i,d,k,u,p,b,l,tt,m,x9,x10,x11⟩:=o
 unfold Opn.agg
 dsimp only
 by_cases h1:tt.size≤100
 ·have h1z:(tt.size:Int)≤100:=by omega
  by_cases h2:m.size≤100
  ·have h2z:(m.size:Int)≤100:=by omega
   go_enter Tryz.func13,Tryz.ntmps13
   go_wp2
   go_ret
   exact YesIf.yes ⟨h1,h2⟩ ((Grew.refl w).alloc _)
  ·have h2z:¬ (m.size:Int)≤100:=by omega
   go_enter Tryz.func13,Tryz.ntmps13
   go_wp2
   go_ret
   exact YesIf.no ((Grew.refl w).alloc _)
 ·have h1z:¬ (tt.size:Int)≤100:=by omega
  go_enter Tryz.func13,Tryz.ntmps13
  go_wp2
  go_ret
  exact YesIf.no ((Grew.refl w).alloc _)
end Go.Proofs.YtdochkemaiokfaaGreat