/-
  DERIVED. GIVEN WITH THE SEED: THE CARDS: each row of YtafncfomiolmgaaGreatDoorRows.lean that lists a variable, with what it lists TIED to the program's text (the seventh form; the later family's looks); each row that meets fmt, with fmt's text TOLD by the authors' own Lean function (tested against real Go, not proved from fmt's source: count such statements apart). THE CARD IS WHAT COUNTS. Prove the row's statement (the work); the ties are given (YtafncfomiolmgaaGreatDoorTie.lean); close each card by the builder's one call (the guide's Derived/Test/ToyasCard.lean, 'card_holds'). Laid BY PROGRAM, IN A SANDBOX (cutbox-door.mjs). By AI agents, Wed Nov 11 2026. No macro, syntax, notation, axiom, sorry.
-/
import Derived.Test.YtafncfomiolmgaaGreatDoorRows
import GoSem.ClaimSeven
namespace Go.Proofs.YtafncfomiolmgaaGreatDoor
namespace Rows

/-- THE TIED CARD OF 'archivumlaw21.RearrangeForms'. -/
def rearrangeFormsCard : Claim7 := { stood := { row := rearrangeFormsRow, standIns := [], harness := (true, "5e054aa3dc99ee56efa5b87e417bbe6722eed5b774ea41677ade90e29cb4deae"), looks := false }, kinds := [], alts := [], laidByText := true, laidKinds := [.data, .data, .data], laidTests := true, laidLooks := .later }
def RearrangeFormsCardSaid : Prop := Claim7.holds Tryz.pinned (.plain (OpenSpec.ofChange rearrangeFormsSpec)) rearrangeFormsCard

/-- THE TIED CARD OF 'archivumlaw21.RearrangeApplies'. -/
def rearrangeAppliesCard : Claim7 := { stood := { row := rearrangeAppliesRow, standIns := [], harness := (true, "5e054aa3dc99ee56efa5b87e417bbe6722eed5b774ea41677ade90e29cb4deae"), looks := false }, kinds := [], alts := [], laidByText := true, laidKinds := [.data, .data, .data], laidTests := true, laidLooks := .later }
def RearrangeAppliesCardSaid : Prop := Claim7.holds Tryz.pinned (.plain (OpenSpec.ofChange rearrangeAppliesSpec)) rearrangeAppliesCard

/-- THE TIED CARD OF 'archivumlaw21.RearrangeOpposes'. -/
def rearrangeOpposesCard : Claim7 := { stood := { row := rearrangeOpposesRow, standIns := [], harness := (true, "5e054aa3dc99ee56efa5b87e417bbe6722eed5b774ea41677ade90e29cb4deae"), looks := false }, kinds := [], alts := [], laidByText := true, laidKinds := [.data, .data, .data], laidTests := true, laidLooks := .later }
def RearrangeOpposesCardSaid : Prop := Claim7.holds Tryz.pinned (.plain (OpenSpec.ofChange rearrangeOpposesSpec)) rearrangeOpposesCard

/-- THE TIED CARD OF 'archivumlaw21.RearrangeRight'. -/
def rearrangeRightCard : Claim7 := { stood := { row := rearrangeRightRow, standIns := [], harness := (true, "5e054aa3dc99ee56efa5b87e417bbe6722eed5b774ea41677ade90e29cb4deae"), looks := false }, kinds := [], alts := [], laidByText := true, laidKinds := [.data, .data, .data], laidTests := true, laidLooks := .later }
def RearrangeRightCardSaid : Prop := Claim7.holds Tryz.pinned (.plain (OpenSpec.ofChange rearrangeRightSpec)) rearrangeRightCard

/-- THE TIED CARD OF 'archivumlaw21.RearrangeBack'. -/
def rearrangeBackCard : Claim7 := { stood := { row := rearrangeBackRow, standIns := [], harness := (true, "5e054aa3dc99ee56efa5b87e417bbe6722eed5b774ea41677ade90e29cb4deae"), looks := false }, kinds := [], alts := [], laidByText := true, laidKinds := [.data, .data, .data], laidTests := true, laidLooks := .later }
def RearrangeBackCardSaid : Prop := Claim7.holds Tryz.pinned (.plain (OpenSpec.ofChange rearrangeBackSpec)) rearrangeBackCard

/-- THE TIED CARD OF 'archivumlaw21.RearrangeLocal'. -/
def rearrangeLocalCard : Claim7 := { stood := { row := rearrangeLocalRow, standIns := [], harness := (true, "5e054aa3dc99ee56efa5b87e417bbe6722eed5b774ea41677ade90e29cb4deae"), looks := false }, kinds := [], alts := [], laidByText := true, laidKinds := [.data, .data, .data], laidTests := true, laidLooks := .later }
def RearrangeLocalCardSaid : Prop := Claim7.holds Tryz.pinned (.plain (OpenSpec.ofChange rearrangeLocalSpec)) rearrangeLocalCard

/-- THE TIED CARD OF 'archivumlaw21.RearrangeTogether'. -/
def rearrangeTogetherCard : Claim7 := { stood := { row := rearrangeTogetherRow, standIns := [], harness := (true, "5e054aa3dc99ee56efa5b87e417bbe6722eed5b774ea41677ade90e29cb4deae"), looks := false }, kinds := [], alts := [], laidByText := true, laidKinds := [.data, .data, .data], laidTests := true, laidLooks := .later }
def RearrangeTogetherCardSaid : Prop := Claim7.holds Tryz.pinned (.plain (OpenSpec.ofChange rearrangeTogetherSpec)) rearrangeTogetherCard

/-- THE TIED CARD OF 'archivumlaw21.RearrangeBuilds'. -/
def rearrangeBuildsCard : Claim7 := { stood := { row := rearrangeBuildsRow, standIns := [], harness := (true, "5e054aa3dc99ee56efa5b87e417bbe6722eed5b774ea41677ade90e29cb4deae"), looks := false }, kinds := [], alts := [], laidByText := true, laidKinds := [.data, .data, .data], laidTests := true, laidLooks := .later }
def RearrangeBuildsCardSaid : Prop := Claim7.holds Tryz.pinned (.plain (OpenSpec.ofChange rearrangeBuildsSpec)) rearrangeBuildsCard

/-- THE SECOND FORM's CARD OF 'archivumlaw21.RearrangeForms'. -/
def rearrangeFormsUptoCard : Claim7 := { stood := { row := rearrangeFormsUptoRow, standIns := [], harness := (true, "5e054aa3dc99ee56efa5b87e417bbe6722eed5b774ea41677ade90e29cb4deae"), looks := false }, kinds := [], alts := [], laidByText := true, laidKinds := [.data, .data, .data], laidTests := true, laidLooks := .later }
def RearrangeFormsUptoCardSaid : Prop := Claim7.holds Tryz.pinned (.plain (OpenSpec.upto rearrangeFormsSpec)) rearrangeFormsUptoCard

/-- THE SECOND FORM's CARD OF 'archivumlaw21.RearrangeApplies'. -/
def rearrangeAppliesUptoCard : Claim7 := { stood := { row := rearrangeAppliesUptoRow, standIns := [], harness := (true, "5e054aa3dc99ee56efa5b87e417bbe6722eed5b774ea41677ade90e29cb4deae"), looks := false }, kinds := [], alts := [], laidByText := true, laidKinds := [.data, .data, .data], laidTests := true, laidLooks := .later }
def RearrangeAppliesUptoCardSaid : Prop := Claim7.holds Tryz.pinned (.plain (OpenSpec.upto rearrangeAppliesSpec)) rearrangeAppliesUptoCard

/-- THE SECOND FORM's CARD OF 'archivumlaw21.RearrangeOpposes'. -/
def rearrangeOpposesUptoCard : Claim7 := { stood := { row := rearrangeOpposesUptoRow, standIns := [], harness := (true, "5e054aa3dc99ee56efa5b87e417bbe6722eed5b774ea41677ade90e29cb4deae"), looks := false }, kinds := [], alts := [], laidByText := true, laidKinds := [.data, .data, .data], laidTests := true, laidLooks := .later }
def RearrangeOpposesUptoCardSaid : Prop := Claim7.holds Tryz.pinned (.plain (OpenSpec.upto rearrangeOpposesSpec)) rearrangeOpposesUptoCard

/-- THE SECOND FORM's CARD OF 'archivumlaw21.RearrangeRight'. -/
def rearrangeRightUptoCard : Claim7 := { stood := { row := rearrangeRightUptoRow, standIns := [], harness := (true, "5e054aa3dc99ee56efa5b87e417bbe6722eed5b774ea41677ade90e29cb4deae"), looks := false }, kinds := [], alts := [], laidByText := true, laidKinds := [.data, .data, .data], laidTests := true, laidLooks := .later }
def RearrangeRightUptoCardSaid : Prop := Claim7.holds Tryz.pinned (.plain (OpenSpec.upto rearrangeRightSpec)) rearrangeRightUptoCard

/-- THE SECOND FORM's CARD OF 'archivumlaw21.RearrangeBack'. -/
def rearrangeBackUptoCard : Claim7 := { stood := { row := rearrangeBackUptoRow, standIns := [], harness := (true, "5e054aa3dc99ee56efa5b87e417bbe6722eed5b774ea41677ade90e29cb4deae"), looks := false }, kinds := [], alts := [], laidByText := true, laidKinds := [.data, .data, .data], laidTests := true, laidLooks := .later }
def RearrangeBackUptoCardSaid : Prop := Claim7.holds Tryz.pinned (.plain (OpenSpec.upto rearrangeBackSpec)) rearrangeBackUptoCard

/-- THE SECOND FORM's CARD OF 'archivumlaw21.RearrangeLocal'. -/
def rearrangeLocalUptoCard : Claim7 := { stood := { row := rearrangeLocalUptoRow, standIns := [], harness := (true, "5e054aa3dc99ee56efa5b87e417bbe6722eed5b774ea41677ade90e29cb4deae"), looks := false }, kinds := [], alts := [], laidByText := true, laidKinds := [.data, .data, .data], laidTests := true, laidLooks := .later }
def RearrangeLocalUptoCardSaid : Prop := Claim7.holds Tryz.pinned (.plain (OpenSpec.upto rearrangeLocalSpec)) rearrangeLocalUptoCard

/-- THE SECOND FORM's CARD OF 'archivumlaw21.RearrangeTogether'. -/
def rearrangeTogetherUptoCard : Claim7 := { stood := { row := rearrangeTogetherUptoRow, standIns := [], harness := (true, "5e054aa3dc99ee56efa5b87e417bbe6722eed5b774ea41677ade90e29cb4deae"), looks := false }, kinds := [], alts := [], laidByText := true, laidKinds := [.data, .data, .data], laidTests := true, laidLooks := .later }
def RearrangeTogetherUptoCardSaid : Prop := Claim7.holds Tryz.pinned (.plain (OpenSpec.upto rearrangeTogetherSpec)) rearrangeTogetherUptoCard

/-- THE SECOND FORM's CARD OF 'archivumlaw21.RearrangeBuilds'. -/
def rearrangeBuildsUptoCard : Claim7 := { stood := { row := rearrangeBuildsUptoRow, standIns := [], harness := (true, "5e054aa3dc99ee56efa5b87e417bbe6722eed5b774ea41677ade90e29cb4deae"), looks := false }, kinds := [], alts := [], laidByText := true, laidKinds := [.data, .data, .data], laidTests := true, laidLooks := .later }
def RearrangeBuildsUptoCardSaid : Prop := Claim7.holds Tryz.pinned (.plain (OpenSpec.upto rearrangeBuildsSpec)) rearrangeBuildsUptoCard
end Rows
end Go.Proofs.YtafncfomiolmgaaGreatDoor
