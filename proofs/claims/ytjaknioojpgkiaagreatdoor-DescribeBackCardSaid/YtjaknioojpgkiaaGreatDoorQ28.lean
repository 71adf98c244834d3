/- Lemmas on what the functions of the program and of the library compute: J8. The conditions stand at each. -/
import Derived.Test.YtjaknioojpgkiaaGreatDoorQ23
import Derived.Test.YtjaknioojpgkiaaGreatDoorQ20
import Derived.Test.YtjaknioojpgkiaaGreatDoorQ21
import Derived.Test.YtjaknioojpgkiaaGreatDoorQ22
import Derived.Test.YtjaknioojpgkiaaGreatDoorQ10
import Derived.Test.YtjaknioojpgkiaaGreatDoorQ2
import Derived.Test.YtjaknioojpgkiaaGreatDoorQ4
import Derived.Test.YtjaknioojpgkiaaGreatDoorQ3
import Derived.Test.YtjaknioojpgkiaaGreatDoorQ5
import Derived.Deep.RegionHeld3
import Derived.Deep.DeepCutAuto
import Derived.Test.YtjaknioojpgkiaaGreatDoorQ27
/- The reference's Reach of layer 28, walked. The condition: the lists are short. -/
namespace Go.Proofs.YtjaknioojpgkiaaGreatDoor
open Go.RowKit

theorem ofI_two (t : Tr) (ls : List ByteArray) (vs : List Val) : ofI t ls vs = 0 ∨ ofI t ls vs = 1 := by
  unfold ofI
  split
  · exact .inl rfl
  · exact .inr rfl
end Go.Proofs.YtjaknioojpgkiaaGreatDoor
