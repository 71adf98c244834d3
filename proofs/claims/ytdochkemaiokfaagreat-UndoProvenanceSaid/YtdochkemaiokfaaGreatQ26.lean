/- Lemmas on what the functions of the program and of the library compute: Op. The conditions stand at each. -/
import Derived.Test.YtdochkemaiokfaaGreatQ22
import Derived.Test.YtdochkemaiokfaaGreatQ8
import Derived.Test.YtdochkemaiokfaaGreatQ23
import Derived.Test.YtdochkemaiokfaaGreatQ9
import Derived.Test.YtdochkemaiokfaaGreatQ2
import Derived.Shelf.Small.Bits
import Derived.Shelf.Small.Strs
import Derived.Shelf.Small.Wraps
import Derived.Shelf.Strings.Search3
import Derived.Shelf.LaysM
import Derived.Shelf.Strings.Shaped
import Derived.Shelf.Sort.Plain
import Derived.Shelf.Slices.Reverse
import Derived.Shelf.Slices.In.SortNone
import Derived.Test.YtdochkemaiokfaaGreatProg
import Derived.Test.YtdochkemaiokfaaGreatQ4
import Derived.Sort.Grow
import Derived.Lib.ItoaLen
import Derived.Laws.Concat
/- rearrange.Opposite, walked. The conditions: the library's own variables hold what they must; the lists are short. -/
namespace Go.Proofs.YtdochkemaiokfaaGreat
open Go.RowKit
def opn0:Opn:=⟨0,0,0,0,0,0,0,⟨#[]⟩,⟨#[]⟩,0,0,0⟩
theorem adr_ne {a b i j:Nat} (h:a≠b):(⟨a,i,none⟩:Addr)≠⟨b,j,none⟩:=fun e=>h (congrArg Addr.block e)
end Go.Proofs.YtdochkemaiokfaaGreat