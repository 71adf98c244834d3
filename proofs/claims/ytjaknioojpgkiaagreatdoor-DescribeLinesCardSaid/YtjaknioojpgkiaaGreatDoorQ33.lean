/- Lemmas on what the functions of the program and of the library compute: SetI, RT2, RT4. The conditions stand at each. -/
import Derived.Test.YtjaknioojpgkiaaGreatDoorQ2
import Derived.Test.YtjaknioojpgkiaaGreatDoorQ3
import Derived.Maps.RangeWalk
import Derived.Maps.OwnSet
import Derived.Test.YtjaknioojpgkiaaGreatDoorQ14
import Derived.Test.YtjaknioojpgkiaaGreatDoorQ19
import Derived.Test.YtjaknioojpgkiaaGreatDoorQ21
import Derived.Deep.RegionHeld3
import Derived.Test.YtjaknioojpgkiaaGreatDoorQ20
import Derived.Test.YtjaknioojpgkiaaGreatDoorQ13
import Derived.Test.YtjaknioojpgkiaaGreatDoorQ4
import Derived.Test.YtjaknioojpgkiaaGreatDoorQ32
import Derived.Sort.OwnSorted
import Derived.Maps.AppendAt
import Derived.RangeFuncBox
import Derived.RangeFuncLeaves
import Derived.OwnWalkIn
import Derived.TacticsInMore
import Derived.LoopNIn
import Derived.LoopIn
import Derived.Test.YtjaknioojpgkiaaGreatDoorProg
import Derived.Test.YtjaknioojpgkiaaGreatDoorQ1
import Derived.Test.YtjaknioojpgkiaaGreatDoorQ10
import Derived.RangeFuncCalls
import Derived.Maps.OwnIn
import Derived.Test.YtjaknioojpgkiaaGreatDoorQ22
import Derived.Deep.AppendLies
/- A set of numbers that is kept in a map: what it has, and what a range over it collects. No condition. -/
namespace Go.Proofs.YtjaknioojpgkiaaGreatDoor
open Go.RowKit Go.Maps

/-- The set of some numbers, as a map to true. -/
def setInts (ks : List Int) : DataW Unit := setOf (.lit (.bool true)) (ks.map fun n => .int .i64 n)
theorem has_setInts (ks : List Int) (n : Int) : has (setInts ks) (.int .i64 n) = true ↔ n ∈ ks := by
  unfold setInts
  rw [has_setOf _ _ _ (fun x hx => by
    obtain ⟨m, _, rfl⟩ := List.mem_map.1 hx
    trivial), List.any_eq_true]
  constructor
  · rintro ⟨x, hx, hs⟩
    obtain ⟨m, hm, rfl⟩ := List.mem_map.1 hx
    simp [Lit.sameKey] at hs
    exact hs ▸ hm
  · intro h
    exact ⟨_, List.mem_map.2 ⟨n, h, rfl⟩, by simp [Lit.sameKey]⟩
/-- What has come of a range over a map keyed by numbers. -/
def CollI (D0 : DataW Unit) (left : Lit → Bool) (ks : List Int) : Prop := ks.Nodup ∧ ∀ x, x ∈ ks ↔ (has D0 (.int .i64 x) = true ∧ left (.int .i64 x) = false)
theorem CollI.start (D0 : DataW Unit) : CollI D0 (has D0) [] := ⟨List.nodup_nil, fun x => by cases has D0 (.int .i64 x) <;> simp⟩
theorem CollI.step {D0 : DataW Unit} {left : Lit → Bool} {ks : List Int} (h : CollI D0 left ks) {x : Int} {y : DataW Unit} (hlk : left (.int .i64 x) = true) (hat : ∀ zd, D0.atKey (.int .i64 x) zd = y) : CollI D0 (fun z => left z && !z.sameKey (.int .i64 x)) (ks ++ [x]) := by
  have hhas : has D0 (.int .i64 x) = true := has_true_of_atKey hat
  have hnew : x ∉ ks := fun hx => by have := ((h.2 x).1 hx).2; rw [hlk] at this; cases this
  refine ⟨List.nodup_append.2 ⟨h.1, by simp, fun a ha b hb => by simp at hb; subst hb; exact fun e => hnew (e ▸ ha)⟩, fun y => ?_⟩
  by_cases hy : y = x
  · subst hy; simp [hhas, Lit.sameKey]
  · simp [h.2 y, hy, Lit.sameKey]
theorem CollI.done {ks0 : List Int} {left : Lit → Bool} {ks : List Int} (h : CollI (setInts ks0) left ks) (hl : ∀ kl, left kl = false) : ks.Nodup ∧ ∀ n, n ∈ ks ↔ n ∈ ks0 :=
  ⟨h.1, fun n => by rw [h.2 n, has_setInts]; simp [hl]⟩
end Go.Proofs.YtjaknioojpgkiaaGreatDoor

/- The reference's Children, under and Below of a tree, walked. The conditions: the lists are short. -/
namespace Go.Proofs.YtjaknioojpgkiaaGreatDoor
open Go.RowKit

def RetList (r : List Int) (w : World) (e : Ending) (w' : World) : Prop := ∃ v, e = .returned v ∧ SlI w' v r ∧ Grew w w' ∧ Fresh w.heap.size v
end Go.Proofs.YtjaknioojpgkiaaGreatDoor

/- The reference's Below of a tree, walked; the program's Below without a condition on what it returns. The conditions: the library's own variables hold what they must; the lists are short; the marks no longer than a string can be. -/
namespace Go.Proofs.YtjaknioojpgkiaaGreatDoor
open Go.RowKit

theorem RetList.is {r : List Int} {w w' : World} {v : Value} (h : SlI w' v r) (hg : Grew w w') : RetIs (r, 0) w (.returned (.tuple #[v, .int .i64 0])) w' := ⟨v, rfl, h, hg⟩
end Go.Proofs.YtjaknioojpgkiaaGreatDoor
