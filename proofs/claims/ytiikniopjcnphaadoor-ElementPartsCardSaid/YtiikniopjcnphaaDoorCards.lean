/-
  DERIVED. GIVEN WITH THE SEED: THE CARDS: each row of YtiikniopjcnphaaDoorRows.lean that lists a variable, with what it lists TIED to the program's text (the seventh form; the later family's looks); each row that meets fmt, with fmt's text TOLD by the authors' own Lean function (tested against real Go, not proved from fmt's source: count such statements apart). THE CARD IS WHAT COUNTS. Prove the row's statement (the work); the ties are given (YtiikniopjcnphaaDoorTie.lean); close each card by the builder's one call (the guide's Derived/Test/ToyasCard.lean, 'card_holds'). Laid BY PROGRAM, IN A SANDBOX (cutbox-door.mjs). By AI agents, Wed Nov 11 2026. No macro, syntax, notation, axiom, sorry.
-/
import Derived.Test.YtiikniopjcnphaaDoorRows
import GoSem.ClaimSeven
namespace Go.Proofs.YtiikniopjcnphaaDoor
namespace Rows

/-- THE TIED CARD OF 'archivumlaw27.ElementTable'. -/
def elementTableCard : Claim7 := { stood := { row := elementTableRow, standIns := [], harness := (true, "b18b2e3143d890b667a7d42ba82b1dfd0c233c13f23a4caa061abbb17582a9df"), looks := false }, kinds := [], alts := [], laidByText := true, laidKinds := [.data, .pinned], laidTests := true, laidLooks := .later }
def ElementTableCardSaid : Prop := Claim7.holds Tryd.pinned (.plain (OpenSpec.ofChange elementTableSpec)) elementTableCard

/-- THE TIED CARD OF 'archivumlaw27.ElementTexts'. -/
def elementTextsCard : Claim7 := { stood := { row := elementTextsRow, standIns := [], harness := (true, "b18b2e3143d890b667a7d42ba82b1dfd0c233c13f23a4caa061abbb17582a9df"), looks := false }, kinds := [], alts := [], laidByText := true, laidKinds := [.data, .pinned], laidTests := true, laidLooks := .later }
def ElementTextsCardSaid : Prop := Claim7.holds Tryd.pinned (.plain (OpenSpec.ofChange elementTextsSpec)) elementTextsCard

/-- THE TIED CARD OF 'archivumlaw27.ElementWords'. -/
def elementWordsCard : Claim7 := { stood := { row := elementWordsRow, standIns := [], harness := (true, "b18b2e3143d890b667a7d42ba82b1dfd0c233c13f23a4caa061abbb17582a9df"), looks := false }, kinds := [], alts := [], laidByText := true, laidKinds := [.data, .pinned], laidTests := true, laidLooks := .later }
def ElementWordsCardSaid : Prop := Claim7.holds Tryd.pinned (.plain (OpenSpec.ofChange elementWordsSpec)) elementWordsCard

/-- THE TIED CARD OF 'archivumlaw27.ElementOrders'. -/
def elementOrdersCard : Claim7 := { stood := { row := elementOrdersRow, standIns := [], harness := (true, "b18b2e3143d890b667a7d42ba82b1dfd0c233c13f23a4caa061abbb17582a9df"), looks := false }, kinds := [], alts := [], laidByText := true, laidKinds := [.data, .pinned], laidTests := true, laidLooks := .later }
def ElementOrdersCardSaid : Prop := Claim7.holds Tryd.pinned (.plain (OpenSpec.ofChange elementOrdersSpec)) elementOrdersCard

/-- THE TIED CARD OF 'archivumlaw27.ElementParts'. -/
def elementPartsCard : Claim7 := { stood := { row := elementPartsRow, standIns := [], harness := (true, "b18b2e3143d890b667a7d42ba82b1dfd0c233c13f23a4caa061abbb17582a9df"), looks := false }, kinds := [], alts := [], laidByText := true, laidKinds := [.data, .pinned], laidTests := true, laidLooks := .later }
def ElementPartsCardSaid : Prop := Claim7.holds Tryd.pinned (.plain (OpenSpec.ofChange elementPartsSpec)) elementPartsCard

/-- THE TIED CARD OF 'archivumlaw27.ElementUnits'. -/
def elementUnitsCard : Claim7 := { stood := { row := elementUnitsRow, standIns := [], harness := (true, "b18b2e3143d890b667a7d42ba82b1dfd0c233c13f23a4caa061abbb17582a9df"), looks := false }, kinds := [], alts := [], laidByText := true, laidKinds := [.data, .pinned], laidTests := true, laidLooks := .later }
def ElementUnitsCardSaid : Prop := Claim7.holds Tryd.pinned (.plain (OpenSpec.ofChange elementUnitsSpec)) elementUnitsCard

/-- THE SECOND FORM's CARD OF 'archivumlaw27.ElementTable'. -/
def elementTableUptoCard : Claim7 := { stood := { row := elementTableUptoRow, standIns := [], harness := (true, "b18b2e3143d890b667a7d42ba82b1dfd0c233c13f23a4caa061abbb17582a9df"), looks := false }, kinds := [], alts := [], laidByText := true, laidKinds := [.data, .pinned], laidTests := true, laidLooks := .later }
def ElementTableUptoCardSaid : Prop := Claim7.holds Tryd.pinned (.plain (OpenSpec.upto elementTableSpec)) elementTableUptoCard

/-- THE SECOND FORM's CARD OF 'archivumlaw27.ElementTexts'. -/
def elementTextsUptoCard : Claim7 := { stood := { row := elementTextsUptoRow, standIns := [], harness := (true, "b18b2e3143d890b667a7d42ba82b1dfd0c233c13f23a4caa061abbb17582a9df"), looks := false }, kinds := [], alts := [], laidByText := true, laidKinds := [.data, .pinned], laidTests := true, laidLooks := .later }
def ElementTextsUptoCardSaid : Prop := Claim7.holds Tryd.pinned (.plain (OpenSpec.upto elementTextsSpec)) elementTextsUptoCard

/-- THE SECOND FORM's CARD OF 'archivumlaw27.ElementWords'. -/
def elementWordsUptoCard : Claim7 := { stood := { row := elementWordsUptoRow, standIns := [], harness := (true, "b18b2e3143d890b667a7d42ba82b1dfd0c233c13f23a4caa061abbb17582a9df"), looks := false }, kinds := [], alts := [], laidByText := true, laidKinds := [.data, .pinned], laidTests := true, laidLooks := .later }
def ElementWordsUptoCardSaid : Prop := Claim7.holds Tryd.pinned (.plain (OpenSpec.upto elementWordsSpec)) elementWordsUptoCard

/-- THE SECOND FORM's CARD OF 'archivumlaw27.ElementOrders'. -/
def elementOrdersUptoCard : Claim7 := { stood := { row := elementOrdersUptoRow, standIns := [], harness := (true, "b18b2e3143d890b667a7d42ba82b1dfd0c233c13f23a4caa061abbb17582a9df"), looks := false }, kinds := [], alts := [], laidByText := true, laidKinds := [.data, .pinned], laidTests := true, laidLooks := .later }
def ElementOrdersUptoCardSaid : Prop := Claim7.holds Tryd.pinned (.plain (OpenSpec.upto elementOrdersSpec)) elementOrdersUptoCard

/-- THE SECOND FORM's CARD OF 'archivumlaw27.ElementParts'. -/
def elementPartsUptoCard : Claim7 := { stood := { row := elementPartsUptoRow, standIns := [], harness := (true, "b18b2e3143d890b667a7d42ba82b1dfd0c233c13f23a4caa061abbb17582a9df"), looks := false }, kinds := [], alts := [], laidByText := true, laidKinds := [.data, .pinned], laidTests := true, laidLooks := .later }
def ElementPartsUptoCardSaid : Prop := Claim7.holds Tryd.pinned (.plain (OpenSpec.upto elementPartsSpec)) elementPartsUptoCard

/-- THE SECOND FORM's CARD OF 'archivumlaw27.ElementUnits'. -/
def elementUnitsUptoCard : Claim7 := { stood := { row := elementUnitsUptoRow, standIns := [], harness := (true, "b18b2e3143d890b667a7d42ba82b1dfd0c233c13f23a4caa061abbb17582a9df"), looks := false }, kinds := [], alts := [], laidByText := true, laidKinds := [.data, .pinned], laidTests := true, laidLooks := .later }
def ElementUnitsUptoCardSaid : Prop := Claim7.holds Tryd.pinned (.plain (OpenSpec.upto elementUnitsSpec)) elementUnitsUptoCard
end Rows
end Go.Proofs.YtiikniopjcnphaaDoor
