/- UndoLast, walked; awake is given as hA. No other condition. -/
import Derived.Deep.CutRange
import Derived.Deep.RegionHeld3
import Derived.BigQuiet
import Derived.Test.YtdochkemaiokfaaGreatQ15
import Derived.Test.YtdochkemaiokfaaGreatQ33
import Derived.Test.YtdochkemaiokfaaGreatQ30
set_option maxHeartbeats 16000000
set_option maxRecDepth 100000
set_option linter.all false
namespace Go.Proofs.YtdochkemaiokfaaGreat
open Go.RowKit
def bBm (WA:World) (R:List Opn × Int × Int) (s4 s5 s6:Value) (wx:World):Prop:=∃ A c,s4=.slice A R.1.length c∧s5=.int .i64 R.2.1∧s6=.int .i64 R.2.2∧Aside (SlO wx (.slice A R.1.length c) R.1)∧Aside (aA WA wx)
theorem aWr {WA W:World} {R:List Opn × Int × Int} {A:Option Addr} {c:Nat} (h:SlO W (.slice A R.1.length c) R.1) (g:aA WA W):bBm WA R (.slice A R.1.length c) (.int .i64 R.2.1) (.int .i64 R.2.2) W:=⟨A,c,rfl,rfl,rfl,(show Aside _ from h),(show Aside _ from g)⟩
end Go.Proofs.YtdochkemaiokfaaGreat