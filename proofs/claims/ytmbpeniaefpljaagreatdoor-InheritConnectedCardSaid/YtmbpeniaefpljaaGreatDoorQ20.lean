/- Lemmas on what the functions of the program and of the library compute: RC1. The conditions stand at each. -/
import Derived.Test.YtmbpeniaefpljaaGreatDoorQ19
import Derived.Test.YtmbpeniaefpljaaGreatDoorQ4
/- The reference's Insert into an ascending list of numbers, walked. The condition: the list is short. -/
namespace Go.Proofs.YtmbpeniaefpljaaGreatDoor
open Go.RowKit

def RetI (l : List Int) (w : World) (e : Ending) (w' : World) : Prop := ∃ v, e = .returned v ∧ SlI w' v l ∧ Grew w w'
end Go.Proofs.YtmbpeniaefpljaaGreatDoor
