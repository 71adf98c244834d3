/-
  DERIVED. GIVEN WITH THE SEED: THE CARDS: each row of YtiikniopjcnphaaGreatDoorRows.lean that lists a variable, with what it lists TIED to the program's text (the seventh form; the later family's looks); each row that meets fmt, with fmt's text TOLD by the authors' own Lean function (tested against real Go, not proved from fmt's source: count such statements apart). THE CARD IS WHAT COUNTS. Prove the row's statement (the work); the ties are given (YtiikniopjcnphaaGreatDoorTie.lean); close each card by the builder's one call (the guide's Derived/Test/ToyasCard.lean, 'card_holds'). Laid BY PROGRAM, IN A SANDBOX (cutbox-door.mjs). By AI agents, Wed Nov 11 2026. No macro, syntax, notation, axiom, sorry.
-/
import Derived.Test.YtiikniopjcnphaaGreatDoorRows
import GoSem.ClaimSeven
namespace Go.Proofs.YtiikniopjcnphaaGreatDoor
namespace Rows

/-- THE TIED CARD OF 'archivumlaw27.ElementChecks'. -/
def elementChecksCard : Claim7 := { stood := { row := elementChecksRow, standIns := [], harness := (true, "f6da21276e57248137dd73ab306a3d7bc2b4384da9c94588265f20d36a4de0e1"), looks := false }, kinds := [], alts := [], laidByText := true, laidKinds := [.data, .pinned], laidTests := true, laidLooks := .later }
def ElementChecksCardSaid : Prop := Claim7.holds Tryz.pinned (.plain (OpenSpec.ofChange elementChecksSpec)) elementChecksCard

/-- THE SECOND FORM's CARD OF 'archivumlaw27.ElementChecks'. -/
def elementChecksUptoCard : Claim7 := { stood := { row := elementChecksUptoRow, standIns := [], harness := (true, "f6da21276e57248137dd73ab306a3d7bc2b4384da9c94588265f20d36a4de0e1"), looks := false }, kinds := [], alts := [], laidByText := true, laidKinds := [.data, .pinned], laidTests := true, laidLooks := .later }
def ElementChecksUptoCardSaid : Prop := Claim7.holds Tryz.pinned (.plain (OpenSpec.upto elementChecksSpec)) elementChecksUptoCard
end Rows
end Go.Proofs.YtiikniopjcnphaaGreatDoor
