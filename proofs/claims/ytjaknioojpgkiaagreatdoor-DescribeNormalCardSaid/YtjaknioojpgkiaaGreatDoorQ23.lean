/- Lemmas on what the functions of the program and of the library compute: J5. The conditions stand at each. -/
import Derived.Test.YtjaknioojpgkiaaGreatDoorQ15
import Derived.Test.YtjaknioojpgkiaaGreatDoorQ9
import Derived.Test.YtjaknioojpgkiaaGreatDoorQ3
import Derived.Test.YtjaknioojpgkiaaGreatDoorQ8
import Derived.Test.YtjaknioojpgkiaaGreatDoorQ2
import Derived.Test.YtjaknioojpgkiaaGreatDoorQ4
import Derived.Test.YtjaknioojpgkiaaGreatDoorQ5
import Derived.Deep.RegionHeld3
import Derived.Deep.DeepCutAuto
/- The reference's effective of layer 28, walked. The condition: the tree is right. -/
namespace Go.Proofs.YtjaknioojpgkiaaGreatDoor
open Go.RowKit

/-- Behind `v, ok := found(..)`: a value lies in a box of its own. -/
def ValCut (W0 : World) (xu xe : Int) (xl xt : ByteArray) (s : Bool) (s1 s2 : Value) (wx : World) : Prop := ∃ U, s1 = .pointer (some ⟨U, 0, none⟩) ∧ s2 = .bool s ∧ Aside (wx.cell? ⟨U, 0, none⟩ = some (.int .i64 xu)) ∧ Aside (wx.cell? ⟨U, 1, none⟩ = some (.int .i64 xe)) ∧ Aside (wx.cell? ⟨U, 2, none⟩ = some (.string xl)) ∧ Aside (wx.cell? ⟨U, 3, none⟩ = some (.string xt)) ∧ Aside (Grew W0 wx)
theorem val_meet {W0 W : World} {P : Nat} {xu xe : Int} {xl xt : ByteArray} {s : Bool} {x0 x1 x2 x3 : Value} (h0 : W.cell? ⟨P, 0, none⟩ = some x0) (h1 : W.cell? ⟨P, 1, none⟩ = some x1) (h2 : W.cell? ⟨P, 2, none⟩ = some x2) (h3 : W.cell? ⟨P, 3, none⟩ = some x3) (hP : W0.heap.size ≤ P) (g : Grew W0 W) :
    ValCut W0 xu xe xl xt s (.pointer (some ⟨P, 0, none⟩)) (.bool s) ((((W.setCell ⟨P, 0, none⟩ (.int .i64 xu)).setCell ⟨P, 1, none⟩ (.int .i64 xe)).setCell ⟨P, 2, none⟩ (.string xl)).setCell ⟨P, 3, none⟩ (.string xt)) := by
  obtain ⟨p0, p1, p2, p3⟩ := res_four (v0 := .int .i64 xu) (v1 := .int .i64 xe) (v2 := .string xl) (v3 := .string xt) h0 h1 h2 h3
  exact ⟨P, rfl, rfl, (show Aside _ from p0), (show Aside _ from p1), (show Aside _ from p2), (show Aside _ from p3), (show Aside _ from grew_four g hP _ _ _ _)⟩
theorem val_meet2 {W0 W : World} {xu xe : Int} {xl xt : ByteArray} {s : Bool} (g : Grew W0 W) :
    ValCut W0 xu xe xl xt s (.pointer (some ⟨W.heap.size, 0, none⟩)) (.bool s) (W.alloc (.cells #[.int .i64 xu, .int .i64 xe, .string xl, .string xt] 29)) := by
  obtain ⟨⟨p0, p1, p2, p3⟩, -⟩ := four_cells (heap_newI W (.cells #[.int .i64 xu, .int .i64 xe, .string xl, .string xt] 29))
  exact ⟨_, rfl, rfl, (show Aside _ from p0), (show Aside _ from p1), (show Aside _ from p2), (show Aside _ from p3), (show Aside _ from g.alloc _)⟩
end Go.Proofs.YtjaknioojpgkiaaGreatDoor
