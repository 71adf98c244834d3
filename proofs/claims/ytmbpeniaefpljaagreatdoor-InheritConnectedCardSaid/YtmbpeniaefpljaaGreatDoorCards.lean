/-
  DERIVED. GIVEN WITH THE SEED: THE CARDS: each row of YtmbpeniaefpljaaGreatDoorRows.lean that lists a variable, with what it lists TIED to the program's text (the seventh form; the later family's looks); each row that meets fmt, with fmt's text TOLD by the authors' own Lean function (tested against real Go, not proved from fmt's source: count such statements apart). THE CARD IS WHAT COUNTS. Prove the row's statement (the work); the ties are given (YtmbpeniaefpljaaGreatDoorTie.lean); close each card by the builder's one call (the guide's Derived/Test/ToyasCard.lean, 'card_holds'). Laid BY PROGRAM, IN A SANDBOX (cutbox-door.mjs). By AI agents, Wed Nov 11 2026. No macro, syntax, notation, axiom, sorry.
-/
import Derived.Test.YtmbpeniaefpljaaGreatDoorRows
import GoSem.ClaimSeven
namespace Go.Proofs.YtmbpeniaefpljaaGreatDoor
namespace Rows

/-- THE TIED CARD OF 'archivumlaw28.InheritFinds'. -/
def inheritFindsCard : Claim7 := { stood := { row := inheritFindsRow, standIns := [], harness := (true, "d4b924014dfbfe59f0c6f858233c8ad8107a0bcd103a1dd5241af31c5d16cf9d"), looks := false }, kinds := [], alts := [], laidByText := true, laidKinds := [.data, .pinned], laidTests := true, laidLooks := .later }
def InheritFindsCardSaid : Prop := Claim7.holds Tryz.pinned (.plain (OpenSpec.ofChange inheritFindsSpec)) inheritFindsCard

/-- THE TIED CARD OF 'archivumlaw28.InheritCollects'. -/
def inheritCollectsCard : Claim7 := { stood := { row := inheritCollectsRow, standIns := [], harness := (true, "d4b924014dfbfe59f0c6f858233c8ad8107a0bcd103a1dd5241af31c5d16cf9d"), looks := false }, kinds := [], alts := [], laidByText := true, laidKinds := [.data, .pinned], laidTests := true, laidLooks := .later }
def InheritCollectsCardSaid : Prop := Claim7.holds Tryz.pinned (.plain (OpenSpec.ofChange inheritCollectsSpec)) inheritCollectsCard

/-- THE TIED CARD OF 'archivumlaw28.InheritScans'. -/
def inheritScansCard : Claim7 := { stood := { row := inheritScansRow, standIns := [], harness := (true, "d4b924014dfbfe59f0c6f858233c8ad8107a0bcd103a1dd5241af31c5d16cf9d"), looks := false }, kinds := [], alts := [], laidByText := true, laidKinds := [.data, .pinned], laidTests := true, laidLooks := .later }
def InheritScansCardSaid : Prop := Claim7.holds Tryz.pinned (.plain (OpenSpec.ofChange inheritScansSpec)) inheritScansCard

/-- THE TIED CARD OF 'archivumlaw28.InheritConnected'. -/
def inheritConnectedCard : Claim7 := { stood := { row := inheritConnectedRow, standIns := [], harness := (true, "d4b924014dfbfe59f0c6f858233c8ad8107a0bcd103a1dd5241af31c5d16cf9d"), looks := false }, kinds := [], alts := [], laidByText := true, laidKinds := [.data, .pinned], laidTests := true, laidLooks := .later }
def InheritConnectedCardSaid : Prop := Claim7.holds Tryz.pinned (.plain (OpenSpec.ofChange inheritConnectedSpec)) inheritConnectedCard

/-- THE TIED CARD OF 'archivumlaw28.InheritWanted'. -/
def inheritWantedCard : Claim7 := { stood := { row := inheritWantedRow, standIns := [], harness := (true, "d4b924014dfbfe59f0c6f858233c8ad8107a0bcd103a1dd5241af31c5d16cf9d"), looks := false }, kinds := [], alts := [], laidByText := true, laidKinds := [.data, .pinned], laidTests := true, laidLooks := .later }
def InheritWantedCardSaid : Prop := Claim7.holds Tryz.pinned (.plain (OpenSpec.ofChange inheritWantedSpec)) inheritWantedCard

/-- THE TIED CARD OF 'archivumlaw28.InheritWithout'. -/
def inheritWithoutCard : Claim7 := { stood := { row := inheritWithoutRow, standIns := [], harness := (true, "d4b924014dfbfe59f0c6f858233c8ad8107a0bcd103a1dd5241af31c5d16cf9d"), looks := false }, kinds := [], alts := [], laidByText := true, laidKinds := [.data, .pinned], laidTests := true, laidLooks := .later }
def InheritWithoutCardSaid : Prop := Claim7.holds Tryz.pinned (.plain (OpenSpec.ofChange inheritWithoutSpec)) inheritWithoutCard

/-- THE TIED CARD OF 'archivumlaw28.InheritSource'. -/
def inheritSourceCard : Claim7 := { stood := { row := inheritSourceRow, standIns := [], harness := (true, "d4b924014dfbfe59f0c6f858233c8ad8107a0bcd103a1dd5241af31c5d16cf9d"), looks := false }, kinds := [], alts := [], laidByText := true, laidKinds := [.data, .pinned], laidTests := true, laidLooks := .later }
def InheritSourceCardSaid : Prop := Claim7.holds Tryz.pinned (.plain (OpenSpec.ofChange inheritSourceSpec)) inheritSourceCard

/-- THE SECOND FORM's CARD OF 'archivumlaw28.InheritFinds'. -/
def inheritFindsUptoCard : Claim7 := { stood := { row := inheritFindsUptoRow, standIns := [], harness := (true, "d4b924014dfbfe59f0c6f858233c8ad8107a0bcd103a1dd5241af31c5d16cf9d"), looks := false }, kinds := [], alts := [], laidByText := true, laidKinds := [.data, .pinned], laidTests := true, laidLooks := .later }
def InheritFindsUptoCardSaid : Prop := Claim7.holds Tryz.pinned (.plain (OpenSpec.upto inheritFindsSpec)) inheritFindsUptoCard

/-- THE SECOND FORM's CARD OF 'archivumlaw28.InheritCollects'. -/
def inheritCollectsUptoCard : Claim7 := { stood := { row := inheritCollectsUptoRow, standIns := [], harness := (true, "d4b924014dfbfe59f0c6f858233c8ad8107a0bcd103a1dd5241af31c5d16cf9d"), looks := false }, kinds := [], alts := [], laidByText := true, laidKinds := [.data, .pinned], laidTests := true, laidLooks := .later }
def InheritCollectsUptoCardSaid : Prop := Claim7.holds Tryz.pinned (.plain (OpenSpec.upto inheritCollectsSpec)) inheritCollectsUptoCard

/-- THE SECOND FORM's CARD OF 'archivumlaw28.InheritScans'. -/
def inheritScansUptoCard : Claim7 := { stood := { row := inheritScansUptoRow, standIns := [], harness := (true, "d4b924014dfbfe59f0c6f858233c8ad8107a0bcd103a1dd5241af31c5d16cf9d"), looks := false }, kinds := [], alts := [], laidByText := true, laidKinds := [.data, .pinned], laidTests := true, laidLooks := .later }
def InheritScansUptoCardSaid : Prop := Claim7.holds Tryz.pinned (.plain (OpenSpec.upto inheritScansSpec)) inheritScansUptoCard

/-- THE SECOND FORM's CARD OF 'archivumlaw28.InheritConnected'. -/
def inheritConnectedUptoCard : Claim7 := { stood := { row := inheritConnectedUptoRow, standIns := [], harness := (true, "d4b924014dfbfe59f0c6f858233c8ad8107a0bcd103a1dd5241af31c5d16cf9d"), looks := false }, kinds := [], alts := [], laidByText := true, laidKinds := [.data, .pinned], laidTests := true, laidLooks := .later }
def InheritConnectedUptoCardSaid : Prop := Claim7.holds Tryz.pinned (.plain (OpenSpec.upto inheritConnectedSpec)) inheritConnectedUptoCard

/-- THE SECOND FORM's CARD OF 'archivumlaw28.InheritWanted'. -/
def inheritWantedUptoCard : Claim7 := { stood := { row := inheritWantedUptoRow, standIns := [], harness := (true, "d4b924014dfbfe59f0c6f858233c8ad8107a0bcd103a1dd5241af31c5d16cf9d"), looks := false }, kinds := [], alts := [], laidByText := true, laidKinds := [.data, .pinned], laidTests := true, laidLooks := .later }
def InheritWantedUptoCardSaid : Prop := Claim7.holds Tryz.pinned (.plain (OpenSpec.upto inheritWantedSpec)) inheritWantedUptoCard

/-- THE SECOND FORM's CARD OF 'archivumlaw28.InheritWithout'. -/
def inheritWithoutUptoCard : Claim7 := { stood := { row := inheritWithoutUptoRow, standIns := [], harness := (true, "d4b924014dfbfe59f0c6f858233c8ad8107a0bcd103a1dd5241af31c5d16cf9d"), looks := false }, kinds := [], alts := [], laidByText := true, laidKinds := [.data, .pinned], laidTests := true, laidLooks := .later }
def InheritWithoutUptoCardSaid : Prop := Claim7.holds Tryz.pinned (.plain (OpenSpec.upto inheritWithoutSpec)) inheritWithoutUptoCard

/-- THE SECOND FORM's CARD OF 'archivumlaw28.InheritSource'. -/
def inheritSourceUptoCard : Claim7 := { stood := { row := inheritSourceUptoRow, standIns := [], harness := (true, "d4b924014dfbfe59f0c6f858233c8ad8107a0bcd103a1dd5241af31c5d16cf9d"), looks := false }, kinds := [], alts := [], laidByText := true, laidKinds := [.data, .pinned], laidTests := true, laidLooks := .later }
def InheritSourceUptoCardSaid : Prop := Claim7.holds Tryz.pinned (.plain (OpenSpec.upto inheritSourceSpec)) inheritSourceUptoCard
end Rows
end Go.Proofs.YtmbpeniaefpljaaGreatDoor
