/- Lemmas on what the functions of the program and of the library compute: Lcp. The conditions stand at each. -/
import Derived.Test.YtdochkemaiokfaaGreatQ16
import Derived.Test.YtdochkemaiokfaaGreatQ26
import Derived.Test.YtdochkemaiokfaaGreatQ12
set_option maxHeartbeats 16000000
set_option maxRecDepth 100000
set_option linter.all false
namespace Go.Proofs.YtdochkemaiokfaaGreat
open Go.RowKit
theorem yN.out {w0 w:World} {rv bv x y:Value} {cs:List BrC} {t:Tr} {R:Nat} {c:Array Value} (h:yN w0 rv bv cs t t.brs.length w) (hR:w.heap[R]? = some (.cells c 43 (0,0))):dF ((w.setCell ⟨R,0,none⟩ x).setCell ⟨R,1,none⟩ y) rv bv t:=by
 have hR2:=heap_setCell_same w R 0 c 43 x hR
 have key:∀ {b:Nat} {v:Value} {l:List Int},pR b w v l→pR b ((w.setCell ⟨R,0,none⟩ x).setCell ⟨R,1,none⟩ y) v l:=fun ho=>by
  have h1:=ownsRow_setCell_other (a:=⟨R,0,none⟩) ho (cR (g:=R) ho hR xA) x;exact ownsRow_setCell_other (a:=⟨R,1,none⟩) h1 (cR (g:=R) h1 hR2 xA) y
 have hb1:=ownsRow_setCell_other (a:=⟨R,0,none⟩) h.brs (cR (g:=R) h.brs hR oH) x;have hb2:=ownsRow_setCell_other (a:=⟨R,1,none⟩) hb1 (cR (g:=R) hb1 hR2 oH) y;exact⟨Rd.of_own (key h.roots),cs,Rd.of_own hb2,h.len,fun i hi hi'=>⟨(h.each i hi hi').1,Rd.of_own (key ((h.each i hi hi').2.2 hi'))⟩⟩
theorem nQ {w:World} {X:Nat} {c:Array Value} {t:TypeId} (h:w.heap[X]? = some (.cells c t (0,0))) (j:Nat):w.frozen? ⟨X,j,none⟩=false:=by simp[World.frozen?,h]
end Go.Proofs.YtdochkemaiokfaaGreat