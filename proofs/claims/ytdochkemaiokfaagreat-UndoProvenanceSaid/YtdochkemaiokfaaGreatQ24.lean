/- Lemmas on what the functions of the program and of the library compute: F3. The conditions stand at each. -/
import Derived.Test.YtdochkemaiokfaaGreatQ23
import Derived.Test.YtdochkemaiokfaaGreatQ3
/- The bound on sizes of trees (the verifier's Few), walked: where it says yes, the lists and the marks are short. No condition. -/
namespace Go.Proofs.YtdochkemaiokfaaGreat
open Go.RowKit
def FewTM (rs:List Int) (br:List Br):Prop:=rs.length≤20∧br.length≤257∧∀ i (h:i<br.length),br[i].kids.length≤20∧br[i].mark.size≤100
theorem FewTM.br {rs:List Int} {br:List Br} (h:FewTM rs br):FewBr br:=⟨by have:=h.2.1;omega,fun i hi=>by have:=(h.2.2 i hi).1;omega⟩
theorem FewTM.marks {rs:List Int} {br:List Br} (h:FewTM rs br):∀ i (h:i<br.length),br[i].mark.size≤9223372036854775807:=fun i hi=>by have:=(h.2.2 i hi).2;omega
theorem FewTM.rs {rs:List Int} {br:List Br} (h:FewTM rs br):rs.length≤1000000:=by have:=h.1;omega
end Go.Proofs.YtdochkemaiokfaaGreat