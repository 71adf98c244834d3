/- Lemmas on what the functions of the program and of the library compute: J10. The conditions stand at each. -/
import Derived.Test.YtjaknioojpgkiaaGreatDoorQ28
import Derived.BigQuiet
/- The reference's Redundant of layer 28, walked. The condition: the lists are short. -/
namespace Go.Proofs.YtjaknioojpgkiaaGreatDoor
open Go.RowKit

def sameT (yt : ByteArray) : Option Val → Bool
  | none => false
  | some w => w.text.toList == yt.toList
theorem redB_ref (t : Tr) (vs : List Val) (v : Val) : redB t vs v = ((brFind t.brs v.unit).isSome && ((kindOf v.elem).inh && sameT v.text (foundF t.brs vs ((brFind t.brs v.unit).getD br0).parent v.elem v.lang))) := by
  unfold redB
  cases hb : brFind t.brs v.unit with
  | none => rfl
  | some b =>
    dsimp only [Option.isSome_some, Option.getD_some]
    rw [Bool.true_and]
    cases foundF t.brs vs b.parent v.elem v.lang <;> rfl
end Go.Proofs.YtjaknioojpgkiaaGreatDoor
