/- Lemmas on what the functions of the program and of the library compute: F3. The conditions stand at each. -/
import Derived.Test.YtdochkemaiokfaaGreatQ10
import Derived.Test.YtdochkemaiokfaaGreatQ3
set_option maxHeartbeats 16000000
set_option maxRecDepth 100000
set_option linter.all false
namespace Go.Proofs.YtdochkemaiokfaaGreat
open Go.RowKit
def aIx (rs:List Int) (br:List Br):Prop:=rs.length≤20∧br.length≤257∧∀ i (h:i<br.length),br[i].kids.length≤20∧br[i].mark.size≤100
theorem aIx.br {rs:List Int} {br:List Br} (h:aIx rs br):cF br:=⟨by have:=h.2.1;omega,fun i hi=>by have:=(h.2.2 i hi).1;omega⟩
theorem aIx.marks {rs:List Int} {br:List Br} (h:aIx rs br):∀ i (h:i<br.length),br[i].mark.size≤9223372036854775807:=fun i hi=>by have:=(h.2.2 i hi).2;omega
theorem aIx.rs {rs:List Int} {br:List Br} (h:aIx rs br):rs.length≤1000000:=by have:=h.1;omega
end Go.Proofs.YtdochkemaiokfaaGreat