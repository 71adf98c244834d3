/- Lemmas on what the functions of the program and of the library compute: J1. The conditions stand at each. -/
import Derived.Test.YtjaknioojpgkiaaGreatDoorQ11
import Derived.Test.YtjaknioojpgkiaaGreatDoorQ10
import Derived.Test.YtjaknioojpgkiaaGreatDoorQ3
import Derived.Test.YtjaknioojpgkiaaGreatDoorQ13
import Derived.Test.YtjaknioojpgkiaaGreatDoorQ2
import Derived.Test.YtjaknioojpgkiaaGreatDoorQ4
/- The reference's found of layer 28, walked. The condition: the tree is right. -/
namespace Go.Proofs.YtjaknioojpgkiaaGreatDoor
open Go.RowKit

/-- A call that returns a value and whether there is one. -/
def RetV (o : Option Val) (w : World) (e : Ending) (w' : World) : Prop := e = .returned (.tuple #[(o.getD val0).agg, .bool o.isSome]) ∧ Grew w w'
end Go.Proofs.YtjaknioojpgkiaaGreatDoor
