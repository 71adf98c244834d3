/-
  DERIVED. GIVEN WITH THE SEED: THE CARDS: each row of YtjaknioojpgkiaaGreatDoorRows.lean that lists a variable, with what it lists TIED to the program's text (the seventh form; the later family's looks); each row that meets fmt, with fmt's text TOLD by the authors' own Lean function (tested against real Go, not proved from fmt's source: count such statements apart). THE CARD IS WHAT COUNTS. Prove the row's statement (the work); the ties are given (YtjaknioojpgkiaaGreatDoorTie.lean); close each card by the builder's one call (the guide's Derived/Test/ToyasCard.lean, 'card_holds'). Laid BY PROGRAM, IN A SANDBOX (cutbox-door.mjs). By AI agents, Wed Nov 11 2026. No macro, syntax, notation, axiom, sorry.
-/
import Derived.Test.YtjaknioojpgkiaaGreatDoorRows
import GoSem.ClaimSeven
namespace Go.Proofs.YtjaknioojpgkiaaGreatDoor
namespace Rows

/-- THE TIED CARD OF 'archivumlaw29.DescribeChanges'. -/
def describeChangesCard : Claim7 := { stood := { row := describeChangesRow, standIns := [], harness := (true, "c3c4e2cef32983387f1f9ed6e52544630611852602a8b9830a31156e2320aabb"), looks := false }, kinds := [], alts := [], laidByText := true, laidKinds := [.data, .data, .data, .data, .pinned], laidTests := true, laidLooks := .later }
def DescribeChangesCardSaid : Prop := Claim7.holds Tryz.pinned (.plain (OpenSpec.ofChange describeChangesSpec)) describeChangesCard

/-- THE TIED CARD OF 'archivumlaw29.DescribeReads'. -/
def describeReadsCard : Claim7 := { stood := { row := describeReadsRow, standIns := [], harness := (true, "c3c4e2cef32983387f1f9ed6e52544630611852602a8b9830a31156e2320aabb"), looks := false }, kinds := [], alts := [], laidByText := true, laidKinds := [.data, .data, .data, .data, .pinned], laidTests := true, laidLooks := .later }
def DescribeReadsCardSaid : Prop := Claim7.holds Tryz.pinned (.plain (OpenSpec.ofChange describeReadsSpec)) describeReadsCard

/-- THE TIED CARD OF 'archivumlaw29.DescribeNormal'. -/
def describeNormalCard : Claim7 := { stood := { row := describeNormalRow, standIns := [], harness := (true, "c3c4e2cef32983387f1f9ed6e52544630611852602a8b9830a31156e2320aabb"), looks := false }, kinds := [], alts := [], laidByText := true, laidKinds := [.data, .data, .data, .data, .pinned], laidTests := true, laidLooks := .later }
def DescribeNormalCardSaid : Prop := Claim7.holds Tryz.pinned (.plain (OpenSpec.ofChange describeNormalSpec)) describeNormalCard

/-- THE TIED CARD OF 'archivumlaw29.DescribeBack'. -/
def describeBackCard : Claim7 := { stood := { row := describeBackRow, standIns := [], harness := (true, "c3c4e2cef32983387f1f9ed6e52544630611852602a8b9830a31156e2320aabb"), looks := false }, kinds := [], alts := [], laidByText := true, laidKinds := [.data, .data, .data, .data, .pinned], laidTests := true, laidLooks := .later }
def DescribeBackCardSaid : Prop := Claim7.holds Tryz.pinned (.plain (OpenSpec.ofChange describeBackSpec)) describeBackCard

/-- THE TIED CARD OF 'archivumlaw29.DescribeLines'. -/
def describeLinesCard : Claim7 := { stood := { row := describeLinesRow, standIns := [], harness := (true, "c3c4e2cef32983387f1f9ed6e52544630611852602a8b9830a31156e2320aabb"), looks := false }, kinds := [], alts := [], laidByText := true, laidKinds := [.data, .data, .data, .data, .pinned], laidTests := true, laidLooks := .later }
def DescribeLinesCardSaid : Prop := Claim7.holds Tryz.pinned (.plain (OpenSpec.ofChange describeLinesSpec)) describeLinesCard

/-- THE TIED CARD OF 'archivumlaw29.DescribeSets'. -/
def describeSetsCard : Claim7 := { stood := { row := describeSetsRow, standIns := [], harness := (true, "c3c4e2cef32983387f1f9ed6e52544630611852602a8b9830a31156e2320aabb"), looks := false }, kinds := [], alts := [], laidByText := true, laidKinds := [.data, .data, .data, .data, .pinned], laidTests := true, laidLooks := .later }
def DescribeSetsCardSaid : Prop := Claim7.holds Tryz.pinned (.plain (OpenSpec.ofChange describeSetsSpec)) describeSetsCard

/-- THE TIED CARD OF 'archivumlaw29.DescribeUnique'. -/
def describeUniqueCard : Claim7 := { stood := { row := describeUniqueRow, standIns := [], harness := (true, "c3c4e2cef32983387f1f9ed6e52544630611852602a8b9830a31156e2320aabb"), looks := false }, kinds := [], alts := [], laidByText := true, laidKinds := [.data, .data, .data, .data, .pinned], laidTests := true, laidLooks := .later }
def DescribeUniqueCardSaid : Prop := Claim7.holds Tryz.pinned (.plain (OpenSpec.ofChange describeUniqueSpec)) describeUniqueCard

/-- THE SECOND FORM's CARD OF 'archivumlaw29.DescribeChanges'. -/
def describeChangesUptoCard : Claim7 := { stood := { row := describeChangesUptoRow, standIns := [], harness := (true, "c3c4e2cef32983387f1f9ed6e52544630611852602a8b9830a31156e2320aabb"), looks := false }, kinds := [], alts := [], laidByText := true, laidKinds := [.data, .data, .data, .data, .pinned], laidTests := true, laidLooks := .later }
def DescribeChangesUptoCardSaid : Prop := Claim7.holds Tryz.pinned (.plain (OpenSpec.upto describeChangesSpec)) describeChangesUptoCard

/-- THE SECOND FORM's CARD OF 'archivumlaw29.DescribeReads'. -/
def describeReadsUptoCard : Claim7 := { stood := { row := describeReadsUptoRow, standIns := [], harness := (true, "c3c4e2cef32983387f1f9ed6e52544630611852602a8b9830a31156e2320aabb"), looks := false }, kinds := [], alts := [], laidByText := true, laidKinds := [.data, .data, .data, .data, .pinned], laidTests := true, laidLooks := .later }
def DescribeReadsUptoCardSaid : Prop := Claim7.holds Tryz.pinned (.plain (OpenSpec.upto describeReadsSpec)) describeReadsUptoCard

/-- THE SECOND FORM's CARD OF 'archivumlaw29.DescribeNormal'. -/
def describeNormalUptoCard : Claim7 := { stood := { row := describeNormalUptoRow, standIns := [], harness := (true, "c3c4e2cef32983387f1f9ed6e52544630611852602a8b9830a31156e2320aabb"), looks := false }, kinds := [], alts := [], laidByText := true, laidKinds := [.data, .data, .data, .data, .pinned], laidTests := true, laidLooks := .later }
def DescribeNormalUptoCardSaid : Prop := Claim7.holds Tryz.pinned (.plain (OpenSpec.upto describeNormalSpec)) describeNormalUptoCard

/-- THE SECOND FORM's CARD OF 'archivumlaw29.DescribeBack'. -/
def describeBackUptoCard : Claim7 := { stood := { row := describeBackUptoRow, standIns := [], harness := (true, "c3c4e2cef32983387f1f9ed6e52544630611852602a8b9830a31156e2320aabb"), looks := false }, kinds := [], alts := [], laidByText := true, laidKinds := [.data, .data, .data, .data, .pinned], laidTests := true, laidLooks := .later }
def DescribeBackUptoCardSaid : Prop := Claim7.holds Tryz.pinned (.plain (OpenSpec.upto describeBackSpec)) describeBackUptoCard

/-- THE SECOND FORM's CARD OF 'archivumlaw29.DescribeLines'. -/
def describeLinesUptoCard : Claim7 := { stood := { row := describeLinesUptoRow, standIns := [], harness := (true, "c3c4e2cef32983387f1f9ed6e52544630611852602a8b9830a31156e2320aabb"), looks := false }, kinds := [], alts := [], laidByText := true, laidKinds := [.data, .data, .data, .data, .pinned], laidTests := true, laidLooks := .later }
def DescribeLinesUptoCardSaid : Prop := Claim7.holds Tryz.pinned (.plain (OpenSpec.upto describeLinesSpec)) describeLinesUptoCard

/-- THE SECOND FORM's CARD OF 'archivumlaw29.DescribeSets'. -/
def describeSetsUptoCard : Claim7 := { stood := { row := describeSetsUptoRow, standIns := [], harness := (true, "c3c4e2cef32983387f1f9ed6e52544630611852602a8b9830a31156e2320aabb"), looks := false }, kinds := [], alts := [], laidByText := true, laidKinds := [.data, .data, .data, .data, .pinned], laidTests := true, laidLooks := .later }
def DescribeSetsUptoCardSaid : Prop := Claim7.holds Tryz.pinned (.plain (OpenSpec.upto describeSetsSpec)) describeSetsUptoCard

/-- THE SECOND FORM's CARD OF 'archivumlaw29.DescribeUnique'. -/
def describeUniqueUptoCard : Claim7 := { stood := { row := describeUniqueUptoRow, standIns := [], harness := (true, "c3c4e2cef32983387f1f9ed6e52544630611852602a8b9830a31156e2320aabb"), looks := false }, kinds := [], alts := [], laidByText := true, laidKinds := [.data, .data, .data, .data, .pinned], laidTests := true, laidLooks := .later }
def DescribeUniqueUptoCardSaid : Prop := Claim7.holds Tryz.pinned (.plain (OpenSpec.upto describeUniqueSpec)) describeUniqueUptoCard
end Rows
end Go.Proofs.YtjaknioojpgkiaaGreatDoor
