/- Lemmas on what the functions of the program and of the library compute: J8. The conditions stand at each. -/
import Derived.Test.YtjaknioojpgkiaaGreatDoorQ32
import Derived.Test.YtjaknioojpgkiaaGreatDoorQ27
import Derived.Test.YtjaknioojpgkiaaGreatDoorQ28
import Derived.Test.YtjaknioojpgkiaaGreatDoorQ10
import Derived.Test.YtjaknioojpgkiaaGreatDoorQ18
import Derived.Test.YtjaknioojpgkiaaGreatDoorQ33
/- The reference's Reach of layer 28, walked. The condition: the lists are short. -/
namespace Go.Proofs.YtjaknioojpgkiaaGreatDoor
open Go.RowKit

theorem ofI_two (t : Tr) (ls : List ByteArray) (vs : List Val) : ofI t ls vs = 0 ∨ ofI t ls vs = 1 := by
  unfold ofI
  split
  · exact .inl rfl
  · exact .inr rfl
end Go.Proofs.YtjaknioojpgkiaaGreatDoor
