/- Lemmas on what the functions of the program and of the library compute: Del3. The conditions stand at each. -/
import Derived.Test.YtjaknioojpgkiaaGreatDoorQ1
import Derived.Test.YtjaknioojpgkiaaGreatDoorQ4
import Derived.Test.YtjaknioojpgkiaaGreatDoorQ16
/- slices.DeleteFunc at numbers, on a row of the call's own; all other blocks are as they were. No condition but that the function that is handed over answers as p does. -/
namespace Go.Proofs.YtjaknioojpgkiaaGreatDoor
open Go.RowKit

theorem grown_set (w : World) (p : Addr) (u : Value) : w.grownBy (w.setCell p u) (some p.block) := ⟨rfl, rfl, rfl, by simp [World.setCell], fun k _ hne => Below.heap_setCell _ _ _ _ (fun e => hne (by rw [e]))⟩
end Go.Proofs.YtjaknioojpgkiaaGreatDoor
