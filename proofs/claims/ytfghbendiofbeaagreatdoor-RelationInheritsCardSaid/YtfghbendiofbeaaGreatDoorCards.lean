/-
  DERIVED. GIVEN WITH THE SEED: THE CARDS: each row of YtfghbendiofbeaaGreatDoorRows.lean that lists a variable, with what it lists TIED to the program's text (the seventh form; the later family's looks); each row that meets fmt, with fmt's text TOLD by the authors' own Lean function (tested against real Go, not proved from fmt's source: count such statements apart). THE CARD IS WHAT COUNTS. Prove the row's statement (the work); the ties are given (YtfghbendiofbeaaGreatDoorTie.lean); close each card by the builder's one call (the guide's Derived/Test/ToyasCard.lean, 'card_holds'). Laid BY PROGRAM, IN A SANDBOX (cutbox-door.mjs). By AI agents, Wed Nov 11 2026. No macro, syntax, notation, axiom, sorry.
-/
import Derived.Test.YtfghbendiofbeaaGreatDoorRows
import GoSem.ClaimSeven
namespace Go.Proofs.YtfghbendiofbeaaGreatDoor
namespace Rows

/-- THE TIED CARD OF 'archivumlaw26.RelationChecks'. -/
def relationChecksCard : Claim7 := { stood := { row := relationChecksRow, standIns := [], harness := (true, "0f32b90e180d2bd3df80ef0384f065a49b68e2ffe8aef867af2bc34b253111ef"), looks := false }, kinds := [], alts := [], laidByText := true, laidKinds := [.data, .data, .data], laidTests := true, laidLooks := .later }
def RelationChecksCardSaid : Prop := Claim7.holds Tryz.pinned (.plain (OpenSpec.ofChange relationChecksSpec)) relationChecksCard

/-- THE TIED CARD OF 'archivumlaw26.RelationChanges'. -/
def relationChangesCard : Claim7 := { stood := { row := relationChangesRow, standIns := [], harness := (true, "0f32b90e180d2bd3df80ef0384f065a49b68e2ffe8aef867af2bc34b253111ef"), looks := false }, kinds := [], alts := [], laidByText := true, laidKinds := [.data, .data, .data], laidTests := true, laidLooks := .later }
def RelationChangesCardSaid : Prop := Claim7.holds Tryz.pinned (.plain (OpenSpec.ofChange relationChangesSpec)) relationChangesCard

/-- THE TIED CARD OF 'archivumlaw26.RelationAsks'. -/
def relationAsksCard : Claim7 := { stood := { row := relationAsksRow, standIns := [], harness := (true, "0f32b90e180d2bd3df80ef0384f065a49b68e2ffe8aef867af2bc34b253111ef"), looks := false }, kinds := [], alts := [], laidByText := true, laidKinds := [.data, .data, .data], laidTests := true, laidLooks := .later }
def RelationAsksCardSaid : Prop := Claim7.holds Tryz.pinned (.plain (OpenSpec.ofChange relationAsksSpec)) relationAsksCard

/-- THE TIED CARD OF 'archivumlaw26.RelationInherits'. -/
def relationInheritsCard : Claim7 := { stood := { row := relationInheritsRow, standIns := [], harness := (true, "0f32b90e180d2bd3df80ef0384f065a49b68e2ffe8aef867af2bc34b253111ef"), looks := false }, kinds := [], alts := [], laidByText := true, laidKinds := [.data, .data, .data], laidTests := true, laidLooks := .later }
def RelationInheritsCardSaid : Prop := Claim7.holds Tryz.pinned (.plain (OpenSpec.ofChange relationInheritsSpec)) relationInheritsCard

/-- THE TIED CARD OF 'archivumlaw26.RelationParents'. -/
def relationParentsCard : Claim7 := { stood := { row := relationParentsRow, standIns := [], harness := (true, "0f32b90e180d2bd3df80ef0384f065a49b68e2ffe8aef867af2bc34b253111ef"), looks := false }, kinds := [], alts := [], laidByText := true, laidKinds := [.data, .data, .data], laidTests := true, laidLooks := .later }
def RelationParentsCardSaid : Prop := Claim7.holds Tryz.pinned (.plain (OpenSpec.ofChange relationParentsSpec)) relationParentsCard

/-- THE TIED CARD OF 'archivumlaw26.RelationEnds'. -/
def relationEndsCard : Claim7 := { stood := { row := relationEndsRow, standIns := [], harness := (true, "0f32b90e180d2bd3df80ef0384f065a49b68e2ffe8aef867af2bc34b253111ef"), looks := false }, kinds := [], alts := [], laidByText := true, laidKinds := [.data, .data, .data], laidTests := true, laidLooks := .later }
def RelationEndsCardSaid : Prop := Claim7.holds Tryz.pinned (.plain (OpenSpec.ofChange relationEndsSpec)) relationEndsCard

/-- THE TIED CARD OF 'archivumlaw26.RelationBoth'. -/
def relationBothCard : Claim7 := { stood := { row := relationBothRow, standIns := [], harness := (true, "0f32b90e180d2bd3df80ef0384f065a49b68e2ffe8aef867af2bc34b253111ef"), looks := false }, kinds := [], alts := [], laidByText := true, laidKinds := [.data, .data, .data], laidTests := true, laidLooks := .later }
def RelationBothCardSaid : Prop := Claim7.holds Tryz.pinned (.plain (OpenSpec.ofChange relationBothSpec)) relationBothCard

/-- THE TIED CARD OF 'archivumlaw26.RelationAdds'. -/
def relationAddsCard : Claim7 := { stood := { row := relationAddsRow, standIns := [], harness := (true, "0f32b90e180d2bd3df80ef0384f065a49b68e2ffe8aef867af2bc34b253111ef"), looks := false }, kinds := [], alts := [], laidByText := true, laidKinds := [.data, .data, .data], laidTests := true, laidLooks := .later }
def RelationAddsCardSaid : Prop := Claim7.holds Tryz.pinned (.plain (OpenSpec.ofChange relationAddsSpec)) relationAddsCard

/-- THE SECOND FORM's CARD OF 'archivumlaw26.RelationChecks'. -/
def relationChecksUptoCard : Claim7 := { stood := { row := relationChecksUptoRow, standIns := [], harness := (true, "0f32b90e180d2bd3df80ef0384f065a49b68e2ffe8aef867af2bc34b253111ef"), looks := false }, kinds := [], alts := [], laidByText := true, laidKinds := [.data, .data, .data], laidTests := true, laidLooks := .later }
def RelationChecksUptoCardSaid : Prop := Claim7.holds Tryz.pinned (.plain (OpenSpec.upto relationChecksSpec)) relationChecksUptoCard

/-- THE SECOND FORM's CARD OF 'archivumlaw26.RelationChanges'. -/
def relationChangesUptoCard : Claim7 := { stood := { row := relationChangesUptoRow, standIns := [], harness := (true, "0f32b90e180d2bd3df80ef0384f065a49b68e2ffe8aef867af2bc34b253111ef"), looks := false }, kinds := [], alts := [], laidByText := true, laidKinds := [.data, .data, .data], laidTests := true, laidLooks := .later }
def RelationChangesUptoCardSaid : Prop := Claim7.holds Tryz.pinned (.plain (OpenSpec.upto relationChangesSpec)) relationChangesUptoCard

/-- THE SECOND FORM's CARD OF 'archivumlaw26.RelationAsks'. -/
def relationAsksUptoCard : Claim7 := { stood := { row := relationAsksUptoRow, standIns := [], harness := (true, "0f32b90e180d2bd3df80ef0384f065a49b68e2ffe8aef867af2bc34b253111ef"), looks := false }, kinds := [], alts := [], laidByText := true, laidKinds := [.data, .data, .data], laidTests := true, laidLooks := .later }
def RelationAsksUptoCardSaid : Prop := Claim7.holds Tryz.pinned (.plain (OpenSpec.upto relationAsksSpec)) relationAsksUptoCard

/-- THE SECOND FORM's CARD OF 'archivumlaw26.RelationInherits'. -/
def relationInheritsUptoCard : Claim7 := { stood := { row := relationInheritsUptoRow, standIns := [], harness := (true, "0f32b90e180d2bd3df80ef0384f065a49b68e2ffe8aef867af2bc34b253111ef"), looks := false }, kinds := [], alts := [], laidByText := true, laidKinds := [.data, .data, .data], laidTests := true, laidLooks := .later }
def RelationInheritsUptoCardSaid : Prop := Claim7.holds Tryz.pinned (.plain (OpenSpec.upto relationInheritsSpec)) relationInheritsUptoCard

/-- THE SECOND FORM's CARD OF 'archivumlaw26.RelationParents'. -/
def relationParentsUptoCard : Claim7 := { stood := { row := relationParentsUptoRow, standIns := [], harness := (true, "0f32b90e180d2bd3df80ef0384f065a49b68e2ffe8aef867af2bc34b253111ef"), looks := false }, kinds := [], alts := [], laidByText := true, laidKinds := [.data, .data, .data], laidTests := true, laidLooks := .later }
def RelationParentsUptoCardSaid : Prop := Claim7.holds Tryz.pinned (.plain (OpenSpec.upto relationParentsSpec)) relationParentsUptoCard

/-- THE SECOND FORM's CARD OF 'archivumlaw26.RelationEnds'. -/
def relationEndsUptoCard : Claim7 := { stood := { row := relationEndsUptoRow, standIns := [], harness := (true, "0f32b90e180d2bd3df80ef0384f065a49b68e2ffe8aef867af2bc34b253111ef"), looks := false }, kinds := [], alts := [], laidByText := true, laidKinds := [.data, .data, .data], laidTests := true, laidLooks := .later }
def RelationEndsUptoCardSaid : Prop := Claim7.holds Tryz.pinned (.plain (OpenSpec.upto relationEndsSpec)) relationEndsUptoCard

/-- THE SECOND FORM's CARD OF 'archivumlaw26.RelationBoth'. -/
def relationBothUptoCard : Claim7 := { stood := { row := relationBothUptoRow, standIns := [], harness := (true, "0f32b90e180d2bd3df80ef0384f065a49b68e2ffe8aef867af2bc34b253111ef"), looks := false }, kinds := [], alts := [], laidByText := true, laidKinds := [.data, .data, .data], laidTests := true, laidLooks := .later }
def RelationBothUptoCardSaid : Prop := Claim7.holds Tryz.pinned (.plain (OpenSpec.upto relationBothSpec)) relationBothUptoCard

/-- THE SECOND FORM's CARD OF 'archivumlaw26.RelationAdds'. -/
def relationAddsUptoCard : Claim7 := { stood := { row := relationAddsUptoRow, standIns := [], harness := (true, "0f32b90e180d2bd3df80ef0384f065a49b68e2ffe8aef867af2bc34b253111ef"), looks := false }, kinds := [], alts := [], laidByText := true, laidKinds := [.data, .data, .data], laidTests := true, laidLooks := .later }
def RelationAddsUptoCardSaid : Prop := Claim7.holds Tryz.pinned (.plain (OpenSpec.upto relationAddsSpec)) relationAddsUptoCard
end Rows
end Go.Proofs.YtfghbendiofbeaaGreatDoor
