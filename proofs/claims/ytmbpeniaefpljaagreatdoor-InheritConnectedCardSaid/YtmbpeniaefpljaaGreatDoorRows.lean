/-
  NARROWER THAN 'FOR EVERY INPUT', by the rows' own cells (each row's printed sentence says how): InheritFinds: laid · InheritCollects: laid · InheritScans: laid · InheritConnected: laid · InheritWanted: laid · InheritWithout: laid · InheritSource: laid.
  DERIVED. THE GIVEN ROWS OF THIS SEAT. 7 by the template 'for every input the law returns true; each argument reads behind the call as it read before'; 0 by the template 'total and deterministic' (their statements: YtmbpeniaefpljaaGreatDoorTotals.lean).
  GIVEN WITH THE SEED: the statements are not yours to turn. If you find one false, say at which input.
  Laid BY PROGRAM, IN A SANDBOX (cutbox-rows.mjs): the forced cells as the released guide's own fill.sh prints them over the translation b9bd21acd72ed9c5… (all of the seat's roots in one cut). By AI agents, Wed Nov 11 2026. No macro, syntax, notation, axiom, sorry.
-/
import Derived.Test.YtmbpeniaefpljaaGreatDoorChecked
import GoSem.PinnedTables
import GoSem.Claim
import GoSem.ClaimJoined
import GoSem.ClaimMapViews
import Derived.JoinedTies
import Derived.KernelRfl
namespace Go.Proofs.YtmbpeniaefpljaaGreatDoor
/- THE CELL 'sum', in the pinned program and in every row, IS THE sha256 OF THE DUMP (.gsa) THAT YtmbpeniaefpljaaGreatDoorProg.lean LOADS. Nothing in Lean hashes anything: it is a label: what it is worth is what the hold of that sum in a sandbox is worth. -/
noncomputable def Tryz.pinned : Pinned := { name := "ytmbpeniaefpljaagreatdoor", sum := "b9bd21acd72ed9c5b3b02c68ef4d6aa58778d6fecf7db98281d0907515763c24", checked := Tryz.checked }
namespace Rows
def none {H : Type} : Left H := { results := [], args := [] }

/- WHAT THE LISTED PACKAGE-LEVEL VARIABLES READ AS WHEN THE CALL BEGINS. Each datum BY PROGRAM (the guide's laid-datum.mjs) off the statement by which the dump's own 'gosem.cut.vars' lays the variable. In a bare row this is a premise. The card (YtmbpeniaefpljaaGreatDoorCards.lean) ties it to the program's text. -/
def laid_unicode_utf8_acceptRanges {H : Type} : DataW H := .agg [.agg [.lit (.int .u8 128), .lit (.int .u8 191)], .agg [.lit (.int .u8 160), .lit (.int .u8 191)], .agg [.lit (.int .u8 128), .lit (.int .u8 159)], .agg [.lit (.int .u8 144), .lit (.int .u8 191)], .agg [.lit (.int .u8 128), .lit (.int .u8 143)], .agg [.lit (.int .u8 0), .lit (.int .u8 0)], .agg [.lit (.int .u8 0), .lit (.int .u8 0)], .agg [.lit (.int .u8 0), .lit (.int .u8 0)], .agg [.lit (.int .u8 0), .lit (.int .u8 0)], .agg [.lit (.int .u8 0), .lit (.int .u8 0)], .agg [.lit (.int .u8 0), .lit (.int .u8 0)], .agg [.lit (.int .u8 0), .lit (.int .u8 0)], .agg [.lit (.int .u8 0), .lit (.int .u8 0)], .agg [.lit (.int .u8 0), .lit (.int .u8 0)], .agg [.lit (.int .u8 0), .lit (.int .u8 0)], .agg [.lit (.int .u8 0), .lit (.int .u8 0)]]
/-- One of Go's own tables, pinned by name: the form's constant. -/
def laid_unicode_utf8_first : DataW Unit := Go.Pinned.utf8First

/-- 'archivumlaw28.InheritFinds': WHATEVER THE INPUT: true; the input reads as it did. -/
def inheritFindsSpec : ChangeSpec := { name := "inheritFinds", fn := fun _ => fun
  | [d1, d2, d3, d4, d5, d6] => { results := [.lit (.bool true)], args := [d1, d2, d3, d4, d5, d6] }
  | _ => none }
def inheritFindsRow : OpenClaim := { program := "ytmbpeniaefpljaagreatdoor", sum := "b9bd21acd72ed9c5b3b02c68ef4d6aa58778d6fecf7db98281d0907515763c24", func := "archivum/archivumlaw28.InheritFinds", spec := "inheritFinds", inPlace := ["internal/bytealg.IndexByteString", "internal/bytealg.IndexString", "internal/bytealg.abigen_runtime_cmpstring"], unfollowed := true, recurses := true, named := ["internal/bytealg.MaxLen", "unicode/utf8.first", "unicode/utf8.acceptRanges"], apart := false, laid := [("unicode/utf8.acceptRanges", laid_unicode_utf8_acceptRanges), ("unicode/utf8.first", laid_unicode_utf8_first)] }
def InheritFindsSaid : Prop := inheritFindsRow.holds Tryz.pinned (OpenSpec.ofChange inheritFindsSpec)

/-- ITS FALSE NEIGHBOUR: 'it returns false'. Refute it at one input. -/
def inheritFindsWrong : ChangeSpec := { name := "inheritFinds", fn := fun _ => fun
  | [d1, d2, d3, d4, d5, d6] => { results := [.lit (.bool false)], args := [d1, d2, d3, d4, d5, d6] }
  | _ => none }
def InheritFindsWrongFalsely : Prop := inheritFindsRow.holds Tryz.pinned (OpenSpec.ofChange inheritFindsWrong)

/-- 'archivumlaw28.InheritCollects': WHATEVER THE INPUT: true; the input reads as it did. -/
def inheritCollectsSpec : ChangeSpec := { name := "inheritCollects", fn := fun _ => fun
  | [d1, d2, d3, d4, d5, d6] => { results := [.lit (.bool true)], args := [d1, d2, d3, d4, d5, d6] }
  | _ => none }
def inheritCollectsRow : OpenClaim := { program := "ytmbpeniaefpljaagreatdoor", sum := "b9bd21acd72ed9c5b3b02c68ef4d6aa58778d6fecf7db98281d0907515763c24", func := "archivum/archivumlaw28.InheritCollects", spec := "inheritCollects", inPlace := ["internal/bytealg.IndexByteString", "internal/bytealg.IndexString", "internal/bytealg.abigen_runtime_cmpstring"], unfollowed := true, recurses := true, named := ["internal/bytealg.MaxLen", "unicode/utf8.first", "unicode/utf8.acceptRanges"], apart := false, laid := [("unicode/utf8.acceptRanges", laid_unicode_utf8_acceptRanges), ("unicode/utf8.first", laid_unicode_utf8_first)] }
def InheritCollectsSaid : Prop := inheritCollectsRow.holds Tryz.pinned (OpenSpec.ofChange inheritCollectsSpec)

/-- ITS FALSE NEIGHBOUR: 'it returns false'. Refute it at one input. -/
def inheritCollectsWrong : ChangeSpec := { name := "inheritCollects", fn := fun _ => fun
  | [d1, d2, d3, d4, d5, d6] => { results := [.lit (.bool false)], args := [d1, d2, d3, d4, d5, d6] }
  | _ => none }
def InheritCollectsWrongFalsely : Prop := inheritCollectsRow.holds Tryz.pinned (OpenSpec.ofChange inheritCollectsWrong)

/-- 'archivumlaw28.InheritScans': WHATEVER THE INPUT: true; the input reads as it did. -/
def inheritScansSpec : ChangeSpec := { name := "inheritScans", fn := fun _ => fun
  | [d1, d2, d3, d4] => { results := [.lit (.bool true)], args := [d1, d2, d3, d4] }
  | _ => none }
def inheritScansRow : OpenClaim := { program := "ytmbpeniaefpljaagreatdoor", sum := "b9bd21acd72ed9c5b3b02c68ef4d6aa58778d6fecf7db98281d0907515763c24", func := "archivum/archivumlaw28.InheritScans", spec := "inheritScans", inPlace := ["internal/bytealg.IndexByteString", "internal/bytealg.IndexString", "internal/bytealg.abigen_runtime_cmpstring"], unfollowed := true, recurses := true, named := ["internal/bytealg.MaxLen", "unicode/utf8.first", "unicode/utf8.acceptRanges"], apart := false, laid := [("unicode/utf8.acceptRanges", laid_unicode_utf8_acceptRanges), ("unicode/utf8.first", laid_unicode_utf8_first)] }
def InheritScansSaid : Prop := inheritScansRow.holds Tryz.pinned (OpenSpec.ofChange inheritScansSpec)

/-- ITS FALSE NEIGHBOUR: 'it returns false'. Refute it at one input. -/
def inheritScansWrong : ChangeSpec := { name := "inheritScans", fn := fun _ => fun
  | [d1, d2, d3, d4] => { results := [.lit (.bool false)], args := [d1, d2, d3, d4] }
  | _ => none }
def InheritScansWrongFalsely : Prop := inheritScansRow.holds Tryz.pinned (OpenSpec.ofChange inheritScansWrong)

/-- 'archivumlaw28.InheritConnected': WHATEVER THE INPUT: true; the input reads as it did. -/
def inheritConnectedSpec : ChangeSpec := { name := "inheritConnected", fn := fun _ => fun
  | [d1, d2, d3, d4, d5, d6, d7] => { results := [.lit (.bool true)], args := [d1, d2, d3, d4, d5, d6, d7] }
  | _ => none }
def inheritConnectedRow : OpenClaim := { program := "ytmbpeniaefpljaagreatdoor", sum := "b9bd21acd72ed9c5b3b02c68ef4d6aa58778d6fecf7db98281d0907515763c24", func := "archivum/archivumlaw28.InheritConnected", spec := "inheritConnected", inPlace := ["internal/bytealg.IndexByteString", "internal/bytealg.IndexString", "internal/bytealg.abigen_runtime_cmpstring"], unfollowed := true, recurses := true, named := ["internal/bytealg.MaxLen", "unicode/utf8.first", "unicode/utf8.acceptRanges"], apart := false, laid := [("unicode/utf8.acceptRanges", laid_unicode_utf8_acceptRanges), ("unicode/utf8.first", laid_unicode_utf8_first)] }
def InheritConnectedSaid : Prop := inheritConnectedRow.holds Tryz.pinned (OpenSpec.ofChange inheritConnectedSpec)

/-- ITS FALSE NEIGHBOUR: 'it returns false'. Refute it at one input. -/
def inheritConnectedWrong : ChangeSpec := { name := "inheritConnected", fn := fun _ => fun
  | [d1, d2, d3, d4, d5, d6, d7] => { results := [.lit (.bool false)], args := [d1, d2, d3, d4, d5, d6, d7] }
  | _ => none }
def InheritConnectedWrongFalsely : Prop := inheritConnectedRow.holds Tryz.pinned (OpenSpec.ofChange inheritConnectedWrong)

/-- 'archivumlaw28.InheritWanted': WHATEVER THE INPUT: true; the input reads as it did. -/
def inheritWantedSpec : ChangeSpec := { name := "inheritWanted", fn := fun _ => fun
  | [d1, d2, d3, d4, d5, d6] => { results := [.lit (.bool true)], args := [d1, d2, d3, d4, d5, d6] }
  | _ => none }
def inheritWantedRow : OpenClaim := { program := "ytmbpeniaefpljaagreatdoor", sum := "b9bd21acd72ed9c5b3b02c68ef4d6aa58778d6fecf7db98281d0907515763c24", func := "archivum/archivumlaw28.InheritWanted", spec := "inheritWanted", inPlace := ["internal/bytealg.IndexByteString", "internal/bytealg.IndexString", "internal/bytealg.abigen_runtime_cmpstring"], unfollowed := true, recurses := true, named := ["internal/bytealg.MaxLen", "unicode/utf8.first", "unicode/utf8.acceptRanges"], apart := false, laid := [("unicode/utf8.acceptRanges", laid_unicode_utf8_acceptRanges), ("unicode/utf8.first", laid_unicode_utf8_first)] }
def InheritWantedSaid : Prop := inheritWantedRow.holds Tryz.pinned (OpenSpec.ofChange inheritWantedSpec)

/-- ITS FALSE NEIGHBOUR: 'it returns false'. Refute it at one input. -/
def inheritWantedWrong : ChangeSpec := { name := "inheritWanted", fn := fun _ => fun
  | [d1, d2, d3, d4, d5, d6] => { results := [.lit (.bool false)], args := [d1, d2, d3, d4, d5, d6] }
  | _ => none }
def InheritWantedWrongFalsely : Prop := inheritWantedRow.holds Tryz.pinned (OpenSpec.ofChange inheritWantedWrong)

/-- 'archivumlaw28.InheritWithout': WHATEVER THE INPUT: true; the input reads as it did. -/
def inheritWithoutSpec : ChangeSpec := { name := "inheritWithout", fn := fun _ => fun
  | [d1, d2, d3, d4, d5, d6, d7] => { results := [.lit (.bool true)], args := [d1, d2, d3, d4, d5, d6, d7] }
  | _ => none }
def inheritWithoutRow : OpenClaim := { program := "ytmbpeniaefpljaagreatdoor", sum := "b9bd21acd72ed9c5b3b02c68ef4d6aa58778d6fecf7db98281d0907515763c24", func := "archivum/archivumlaw28.InheritWithout", spec := "inheritWithout", inPlace := ["internal/bytealg.IndexByteString", "internal/bytealg.IndexString", "internal/bytealg.abigen_runtime_cmpstring"], unfollowed := true, recurses := true, named := ["internal/bytealg.MaxLen", "unicode/utf8.first", "unicode/utf8.acceptRanges"], apart := false, laid := [("unicode/utf8.acceptRanges", laid_unicode_utf8_acceptRanges), ("unicode/utf8.first", laid_unicode_utf8_first)] }
def InheritWithoutSaid : Prop := inheritWithoutRow.holds Tryz.pinned (OpenSpec.ofChange inheritWithoutSpec)

/-- ITS FALSE NEIGHBOUR: 'it returns false'. Refute it at one input. -/
def inheritWithoutWrong : ChangeSpec := { name := "inheritWithout", fn := fun _ => fun
  | [d1, d2, d3, d4, d5, d6, d7] => { results := [.lit (.bool false)], args := [d1, d2, d3, d4, d5, d6, d7] }
  | _ => none }
def InheritWithoutWrongFalsely : Prop := inheritWithoutRow.holds Tryz.pinned (OpenSpec.ofChange inheritWithoutWrong)

/-- 'archivumlaw28.InheritSource': WHATEVER THE INPUT: true; the input reads as it did. -/
def inheritSourceSpec : ChangeSpec := { name := "inheritSource", fn := fun _ => fun
  | [d1, d2, d3, d4, d5, d6] => { results := [.lit (.bool true)], args := [d1, d2, d3, d4, d5, d6] }
  | _ => none }
def inheritSourceRow : OpenClaim := { program := "ytmbpeniaefpljaagreatdoor", sum := "b9bd21acd72ed9c5b3b02c68ef4d6aa58778d6fecf7db98281d0907515763c24", func := "archivum/archivumlaw28.InheritSource", spec := "inheritSource", inPlace := ["internal/bytealg.IndexByteString", "internal/bytealg.IndexString", "internal/bytealg.abigen_runtime_cmpstring"], unfollowed := true, recurses := true, named := ["internal/bytealg.MaxLen", "unicode/utf8.first", "unicode/utf8.acceptRanges"], apart := false, laid := [("unicode/utf8.acceptRanges", laid_unicode_utf8_acceptRanges), ("unicode/utf8.first", laid_unicode_utf8_first)] }
def InheritSourceSaid : Prop := inheritSourceRow.holds Tryz.pinned (OpenSpec.ofChange inheritSourceSpec)

/-- ITS FALSE NEIGHBOUR: 'it returns false'. Refute it at one input. -/
def inheritSourceWrong : ChangeSpec := { name := "inheritSource", fn := fun _ => fun
  | [d1, d2, d3, d4, d5, d6] => { results := [.lit (.bool false)], args := [d1, d2, d3, d4, d5, d6] }
  | _ => none }
def InheritSourceWrongFalsely : Prop := inheritSourceRow.holds Tryz.pinned (OpenSpec.ofChange inheritSourceWrong)

/- THE SECOND FORM. 'bulk': how many values and letters a reading holds, each counted each time it is reached (what is shared counts as often as it is met; a slice's spare places count too). A statement '..UptoSaid' is the law's where the arguments, and the package variables that the reading takes, are together of bulk at most 1048576: NARROWER than '..Said'. Prove '..Said' where nothing that the law and all that it calls make is longer than what came in: it says more and counts as full. Else prove '..UptoSaid'. A law counts once. -/
mutual
def uptoBulk {H : Type} : DataW H → Nat
  | .lit (.string bytes) => bytes.length + 1
  | .lit _ => 1
  | .nil => 1
  | .ptr d => uptoBulk d + 1
  | .slice elems spare => uptoBulkAll elems + uptoBulkAll spare + 1
  | .agg parts => uptoBulkAll parts + 1
  | .iface _ d => uptoBulk d + 1
  | .map entries => uptoBulkEntries entries + 1
  | .held _ => 1
def uptoBulkAll {H : Type} : List (DataW H) → Nat
  | [] => 0
  | d :: r => uptoBulk d + uptoBulkAll r
def uptoBulkEntries {H : Type} : List (Lit × DataW H) → Nat
  | [] => 0
  | x :: r => uptoBulkEntry x + uptoBulkEntries r
def uptoBulkEntry {H : Type} : Lit × DataW H → Nat
  | (.string bytes, d) => bytes.length + uptoBulk d + 1
  | (_, d) => uptoBulk d + 1
 end
def uptoSmall : (H : Type) → List (DataW H) → Bool := fun _ ds => decide (uptoBulkAll ds ≤ 1048576)
def OpenSpec.upto (s : _root_.Go.ChangeSpec) : _root_.Go.OpenSpec := { _root_.Go.OpenSpec.ofChange s with cond := some uptoSmall }

/-- 'archivumlaw28.InheritFinds', WHERE WHAT IT READS IS OF BULK AT MOST 1048576: true; the input reads as it did. -/
def inheritFindsUptoRow : OpenClaim := { program := "ytmbpeniaefpljaagreatdoor", sum := "b9bd21acd72ed9c5b3b02c68ef4d6aa58778d6fecf7db98281d0907515763c24", func := "archivum/archivumlaw28.InheritFinds", spec := "inheritFinds", inPlace := ["internal/bytealg.IndexByteString", "internal/bytealg.IndexString", "internal/bytealg.abigen_runtime_cmpstring"], unfollowed := true, recurses := true, named := ["internal/bytealg.MaxLen", "unicode/utf8.first", "unicode/utf8.acceptRanges"], apart := false, laid := [("unicode/utf8.acceptRanges", laid_unicode_utf8_acceptRanges), ("unicode/utf8.first", laid_unicode_utf8_first)], narrowed := true }
def InheritFindsUptoSaid : Prop := inheritFindsUptoRow.holds Tryz.pinned (OpenSpec.upto inheritFindsSpec)

/-- 'archivumlaw28.InheritCollects', WHERE WHAT IT READS IS OF BULK AT MOST 1048576: true; the input reads as it did. -/
def inheritCollectsUptoRow : OpenClaim := { program := "ytmbpeniaefpljaagreatdoor", sum := "b9bd21acd72ed9c5b3b02c68ef4d6aa58778d6fecf7db98281d0907515763c24", func := "archivum/archivumlaw28.InheritCollects", spec := "inheritCollects", inPlace := ["internal/bytealg.IndexByteString", "internal/bytealg.IndexString", "internal/bytealg.abigen_runtime_cmpstring"], unfollowed := true, recurses := true, named := ["internal/bytealg.MaxLen", "unicode/utf8.first", "unicode/utf8.acceptRanges"], apart := false, laid := [("unicode/utf8.acceptRanges", laid_unicode_utf8_acceptRanges), ("unicode/utf8.first", laid_unicode_utf8_first)], narrowed := true }
def InheritCollectsUptoSaid : Prop := inheritCollectsUptoRow.holds Tryz.pinned (OpenSpec.upto inheritCollectsSpec)

/-- 'archivumlaw28.InheritScans', WHERE WHAT IT READS IS OF BULK AT MOST 1048576: true; the input reads as it did. -/
def inheritScansUptoRow : OpenClaim := { program := "ytmbpeniaefpljaagreatdoor", sum := "b9bd21acd72ed9c5b3b02c68ef4d6aa58778d6fecf7db98281d0907515763c24", func := "archivum/archivumlaw28.InheritScans", spec := "inheritScans", inPlace := ["internal/bytealg.IndexByteString", "internal/bytealg.IndexString", "internal/bytealg.abigen_runtime_cmpstring"], unfollowed := true, recurses := true, named := ["internal/bytealg.MaxLen", "unicode/utf8.first", "unicode/utf8.acceptRanges"], apart := false, laid := [("unicode/utf8.acceptRanges", laid_unicode_utf8_acceptRanges), ("unicode/utf8.first", laid_unicode_utf8_first)], narrowed := true }
def InheritScansUptoSaid : Prop := inheritScansUptoRow.holds Tryz.pinned (OpenSpec.upto inheritScansSpec)

/-- 'archivumlaw28.InheritConnected', WHERE WHAT IT READS IS OF BULK AT MOST 1048576: true; the input reads as it did. -/
def inheritConnectedUptoRow : OpenClaim := { program := "ytmbpeniaefpljaagreatdoor", sum := "b9bd21acd72ed9c5b3b02c68ef4d6aa58778d6fecf7db98281d0907515763c24", func := "archivum/archivumlaw28.InheritConnected", spec := "inheritConnected", inPlace := ["internal/bytealg.IndexByteString", "internal/bytealg.IndexString", "internal/bytealg.abigen_runtime_cmpstring"], unfollowed := true, recurses := true, named := ["internal/bytealg.MaxLen", "unicode/utf8.first", "unicode/utf8.acceptRanges"], apart := false, laid := [("unicode/utf8.acceptRanges", laid_unicode_utf8_acceptRanges), ("unicode/utf8.first", laid_unicode_utf8_first)], narrowed := true }
def InheritConnectedUptoSaid : Prop := inheritConnectedUptoRow.holds Tryz.pinned (OpenSpec.upto inheritConnectedSpec)

/-- 'archivumlaw28.InheritWanted', WHERE WHAT IT READS IS OF BULK AT MOST 1048576: true; the input reads as it did. -/
def inheritWantedUptoRow : OpenClaim := { program := "ytmbpeniaefpljaagreatdoor", sum := "b9bd21acd72ed9c5b3b02c68ef4d6aa58778d6fecf7db98281d0907515763c24", func := "archivum/archivumlaw28.InheritWanted", spec := "inheritWanted", inPlace := ["internal/bytealg.IndexByteString", "internal/bytealg.IndexString", "internal/bytealg.abigen_runtime_cmpstring"], unfollowed := true, recurses := true, named := ["internal/bytealg.MaxLen", "unicode/utf8.first", "unicode/utf8.acceptRanges"], apart := false, laid := [("unicode/utf8.acceptRanges", laid_unicode_utf8_acceptRanges), ("unicode/utf8.first", laid_unicode_utf8_first)], narrowed := true }
def InheritWantedUptoSaid : Prop := inheritWantedUptoRow.holds Tryz.pinned (OpenSpec.upto inheritWantedSpec)

/-- 'archivumlaw28.InheritWithout', WHERE WHAT IT READS IS OF BULK AT MOST 1048576: true; the input reads as it did. -/
def inheritWithoutUptoRow : OpenClaim := { program := "ytmbpeniaefpljaagreatdoor", sum := "b9bd21acd72ed9c5b3b02c68ef4d6aa58778d6fecf7db98281d0907515763c24", func := "archivum/archivumlaw28.InheritWithout", spec := "inheritWithout", inPlace := ["internal/bytealg.IndexByteString", "internal/bytealg.IndexString", "internal/bytealg.abigen_runtime_cmpstring"], unfollowed := true, recurses := true, named := ["internal/bytealg.MaxLen", "unicode/utf8.first", "unicode/utf8.acceptRanges"], apart := false, laid := [("unicode/utf8.acceptRanges", laid_unicode_utf8_acceptRanges), ("unicode/utf8.first", laid_unicode_utf8_first)], narrowed := true }
def InheritWithoutUptoSaid : Prop := inheritWithoutUptoRow.holds Tryz.pinned (OpenSpec.upto inheritWithoutSpec)

/-- 'archivumlaw28.InheritSource', WHERE WHAT IT READS IS OF BULK AT MOST 1048576: true; the input reads as it did. -/
def inheritSourceUptoRow : OpenClaim := { program := "ytmbpeniaefpljaagreatdoor", sum := "b9bd21acd72ed9c5b3b02c68ef4d6aa58778d6fecf7db98281d0907515763c24", func := "archivum/archivumlaw28.InheritSource", spec := "inheritSource", inPlace := ["internal/bytealg.IndexByteString", "internal/bytealg.IndexString", "internal/bytealg.abigen_runtime_cmpstring"], unfollowed := true, recurses := true, named := ["internal/bytealg.MaxLen", "unicode/utf8.first", "unicode/utf8.acceptRanges"], apart := false, laid := [("unicode/utf8.acceptRanges", laid_unicode_utf8_acceptRanges), ("unicode/utf8.first", laid_unicode_utf8_first)], narrowed := true }
def InheritSourceUptoSaid : Prop := inheritSourceUptoRow.holds Tryz.pinned (OpenSpec.upto inheritSourceSpec)

end Rows
end Go.Proofs.YtmbpeniaefpljaaGreatDoor
