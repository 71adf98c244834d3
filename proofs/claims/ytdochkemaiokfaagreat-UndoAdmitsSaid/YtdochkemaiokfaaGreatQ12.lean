/- Lemmas on what the functions of the program and of the library compute: Lex. The conditions stand at each. -/
import Derived.Test.YtdochkemaiokfaaGreatQ10
import Derived.Test.YtdochkemaiokfaaGreatQ11
set_option maxHeartbeats 16000000
set_option maxRecDepth 100000
set_option linter.all false
namespace Go.Proofs.YtdochkemaiokfaaGreat
open Go.RowKit
def bDf (t:Tr) (w:World) (e:Ending) (w':World):Prop:=∃ rv bv,e=.returned (.agg #[rv,bv])∧dF w' rv bv t∧aA w w'
end Go.Proofs.YtdochkemaiokfaaGreat