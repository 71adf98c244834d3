/- Lemmas on what the functions of the program and of the library compute: F1. The conditions stand at each. -/
import Derived.Test.YtjaknioojpgkiaaGreatDoorQ4
/- The bounds on sizes of authorities and relations (the verifier's Few), walked: where they say yes, the lists are short. No condition. -/
namespace Go.Proofs.YtjaknioojpgkiaaGreatDoor
open Go.RowKit

/-- A call that answers yes or no; where it says yes, P holds. -/
def YesIf (P : Prop) (w : World) (e : Ending) (w' : World) : Prop := ∃ q : Bool, e = .returned (.bool q) ∧ (q = true → P) ∧ Grew w w'
theorem YesIf.no {P : Prop} {w w' : World} (hg : Grew w w') : YesIf P w (.returned (.bool false)) w' := ⟨false, rfl, fun h => (Bool.false_ne_true h).elim, hg⟩
theorem YesIf.yes {P : Prop} {w w' : World} (h : P) (hg : Grew w w') : YesIf P w (.returned (.bool true)) w' := ⟨true, rfl, fun _ => h, hg⟩
def FewA (l : List Auth) : Prop := l.length ≤ 65 ∧ ∀ i (h : i < l.length), l[i].names.length ≤ 17 ∧ l[i].next.length ≤ 17
theorem FewA.au {l : List Auth} (h : FewA l) : FewAu l := fun i hi => ⟨by have := (h.2 i hi).1; omega, by have := (h.2 i hi).2; omega⟩
end Go.Proofs.YtjaknioojpgkiaaGreatDoor
