/- Lemmas on what the functions of the program and of the library compute: Op. The conditions stand at each. -/
import Derived.Test.YtdochkemaiokfaaGreatQ26
import Derived.Test.YtdochkemaiokfaaGreatQ10
import Derived.Test.YtdochkemaiokfaaGreatQ9
import Derived.Test.YtdochkemaiokfaaGreatQ2
import Derived.Shelf.Small.Bits
import Derived.Shelf.Small.Strs
import Derived.Shelf.Small.Wraps
import Derived.Shelf.Strings.Search3
import Derived.Shelf.LaysM
import Derived.Shelf.Strings.Shaped
import Derived.Shelf.Sort.Plain
import Derived.Shelf.Strings.FuncGrows
import Derived.Shelf.Slices.Reverse
import Derived.Ground.Names2Prog
import Derived.Shelf.Slices.SearchI
import Derived.Shelf.Slices.In.SortNone
import Derived.Test.YtdochkemaiokfaaGreatProg
import Derived.Test.YtdochkemaiokfaaGreatQ4
import Derived.Sort.Grow
import Derived.Lib.ItoaLen
import Derived.Laws.Concat
set_option maxHeartbeats 16000000
set_option maxRecDepth 100000
set_option linter.all false
namespace Go.Proofs.YtdochkemaiokfaaGreat
open Go.RowKit
def aTh:Opn:=⟨0,0,0,0,0,0,0,⟨#[]⟩,⟨#[]⟩,0,0,0⟩
theorem vM {w W:World} {P:Nat} {v0 v1 v2 v3 v4 v5 v6 v7 v8 v9 v10 v11:Value} (h:aA w W) (hp:w.heap.size≤P):aA w ((((((((((((W.setCell ⟨P,0,none⟩ v0).setCell ⟨P,1,none⟩ v1).setCell ⟨P,2,none⟩ v2).setCell ⟨P,3,none⟩ v3).setCell ⟨P,4,none⟩ v4).setCell ⟨P,5,none⟩ v5).setCell ⟨P,6,none⟩ v6).setCell ⟨P,7,none⟩ v7).setCell ⟨P,8,none⟩ v8).setCell ⟨P,9,none⟩ v9).setCell ⟨P,10,none⟩ v10).setCell ⟨P,11,none⟩ v11):=by
 exact(yZ (p:=⟨P,11,none⟩) (yZ (p:=⟨P,10,none⟩) (yZ (p:=⟨P,9,none⟩) (yZ (p:=⟨P,8,none⟩) (yZ (p:=⟨P,7,none⟩) (yZ (p:=⟨P,6,none⟩) (yZ (p:=⟨P,5,none⟩) (yZ (p:=⟨P,4,none⟩) (yZ (p:=⟨P,3,none⟩) (yZ (p:=⟨P,2,none⟩) (yZ (p:=⟨P,1,none⟩) (yZ (p:=⟨P,0,none⟩) h hp _) hp _) hp _) hp _) hp _) hp _) hp _) hp _) hp _) hp _) hp _) hp _)
theorem aBf {a b i j:Nat} (h:a≠b):(⟨a,i,none⟩:Addr)≠⟨b,j,none⟩:=fun e=>h (congrArg Addr.block e)
end Go.Proofs.YtdochkemaiokfaaGreat