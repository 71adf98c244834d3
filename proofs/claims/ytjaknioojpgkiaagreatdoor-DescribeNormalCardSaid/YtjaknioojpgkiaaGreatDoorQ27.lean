/- Lemmas on what the functions of the program and of the library compute: RT2, RT4. The conditions stand at each. -/
import Derived.Test.YtjaknioojpgkiaaGreatDoorQ2
import Derived.Test.YtjaknioojpgkiaaGreatDoorQ4
import Derived.Test.YtjaknioojpgkiaaGreatDoorQ15
import Derived.Deep.RegionHeld3
import Derived.Test.YtjaknioojpgkiaaGreatDoorQ3
import Derived.Test.YtjaknioojpgkiaaGreatDoorQ5
import Derived.Deep.DeepCutAuto
import Derived.Test.YtjaknioojpgkiaaGreatDoorQ26
import Derived.Sort.OwnSorted
import Derived.Maps.AppendAt
import Derived.RangeFuncBox
import Derived.RangeFuncLeaves
import Derived.OwnWalkIn
import Derived.TacticsInMore
import Derived.LoopNIn
import Derived.LoopIn
import Derived.Test.YtjaknioojpgkiaaGreatDoorProg
import Derived.Test.YtjaknioojpgkiaaGreatDoorQ1
import Derived.Test.YtjaknioojpgkiaaGreatDoorQ10
import Derived.RangeFuncCalls
import Derived.Test.YtjaknioojpgkiaaGreatDoorQ16
import Derived.Deep.AppendLies
/- The reference's Children, under and Below of a tree, walked. The conditions: the lists are short. -/
namespace Go.Proofs.YtjaknioojpgkiaaGreatDoor
open Go.RowKit

def RetList (r : List Int) (w : World) (e : Ending) (w' : World) : Prop := ∃ v, e = .returned v ∧ SlI w' v r ∧ Grew w w' ∧ Fresh w.heap.size v
end Go.Proofs.YtjaknioojpgkiaaGreatDoor

/- The reference's Below of a tree, walked; the program's Below without a condition on what it returns. The conditions: the library's own variables hold what they must; the lists are short; the marks no longer than a string can be. -/
namespace Go.Proofs.YtjaknioojpgkiaaGreatDoor
open Go.RowKit

theorem RetList.is {r : List Int} {w w' : World} {v : Value} (h : SlI w' v r) (hg : Grew w w') : RetIs (r, 0) w (.returned (.tuple #[v, .int .i64 0])) w' := ⟨v, rfl, h, hg⟩
end Go.Proofs.YtjaknioojpgkiaaGreatDoor
