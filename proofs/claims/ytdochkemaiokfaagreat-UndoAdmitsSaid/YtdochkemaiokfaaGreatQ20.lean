/- Lemmas on what the functions of the program and of the library compute: RC1. The conditions stand at each. -/
import Derived.Test.YtdochkemaiokfaaGreatQ8
import Derived.Test.YtdochkemaiokfaaGreatQ4
set_option maxHeartbeats 16000000
set_option maxRecDepth 100000
set_option linter.all false
namespace Go.Proofs.YtdochkemaiokfaaGreat
open Go.RowKit
def bEn (l:List Int) (w:World) (e:Ending) (w':World):Prop:=∃ v,e=.returned v∧SlI w' v l∧aA w w'
end Go.Proofs.YtdochkemaiokfaaGreat