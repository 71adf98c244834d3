/-
  NARROWER THAN 'FOR EVERY INPUT', by the rows' own cells (each row's printed sentence says how): ElementTable: laid · ElementTexts: laid · ElementWords: laid · ElementOrders: laid · ElementParts: laid · ElementUnits: laid.
  DERIVED. THE GIVEN ROWS OF THIS SEAT. 6 by the template 'for every input the law returns true; each argument reads behind the call as it read before'; 0 by the template 'total and deterministic' (their statements: YtiikniopjcnphaaDoorTotals.lean).
  GIVEN WITH THE SEED: the statements are not yours to turn. If you find one false, say at which input.
  Laid BY PROGRAM, IN A SANDBOX (cutbox-rows.mjs): the forced cells as the released guide's own fill.sh prints them over the translation f673963c2b49afa2… (all of the seat's roots in one cut). By AI agents, Wed Nov 11 2026. No macro, syntax, notation, axiom, sorry.
-/
import Derived.Test.YtiikniopjcnphaaDoorChecked
import GoSem.PinnedTables
import GoSem.Claim
import GoSem.ClaimJoined
import GoSem.ClaimMapViews
import Derived.JoinedTies
import Derived.KernelRfl
namespace Go.Proofs.YtiikniopjcnphaaDoor
/- THE CELL 'sum', in the pinned program and in every row, IS THE sha256 OF THE DUMP (.gsa) THAT YtiikniopjcnphaaDoorProg.lean LOADS. Nothing in Lean hashes anything: it is a label: what it is worth is what the hold of that sum in a sandbox is worth. -/
noncomputable def Tryd.pinned : Pinned := { name := "ytiikniopjcnphaadoor", sum := "f673963c2b49afa23a65fef6e71f2304fefdb332efb2191f3848447a254d30a2", checked := Tryd.checked }
namespace Rows
def none {H : Type} : Left H := { results := [], args := [] }

/- WHAT THE LISTED PACKAGE-LEVEL VARIABLES READ AS WHEN THE CALL BEGINS. Each datum BY PROGRAM (the guide's laid-datum.mjs) off the statement by which the dump's own 'gosem.cut.vars' lays the variable. In a bare row this is a premise. The card (YtiikniopjcnphaaDoorCards.lean) ties it to the program's text. -/
def laid_unicode_utf8_acceptRanges {H : Type} : DataW H := .agg [.agg [.lit (.int .u8 128), .lit (.int .u8 191)], .agg [.lit (.int .u8 160), .lit (.int .u8 191)], .agg [.lit (.int .u8 128), .lit (.int .u8 159)], .agg [.lit (.int .u8 144), .lit (.int .u8 191)], .agg [.lit (.int .u8 128), .lit (.int .u8 143)], .agg [.lit (.int .u8 0), .lit (.int .u8 0)], .agg [.lit (.int .u8 0), .lit (.int .u8 0)], .agg [.lit (.int .u8 0), .lit (.int .u8 0)], .agg [.lit (.int .u8 0), .lit (.int .u8 0)], .agg [.lit (.int .u8 0), .lit (.int .u8 0)], .agg [.lit (.int .u8 0), .lit (.int .u8 0)], .agg [.lit (.int .u8 0), .lit (.int .u8 0)], .agg [.lit (.int .u8 0), .lit (.int .u8 0)], .agg [.lit (.int .u8 0), .lit (.int .u8 0)], .agg [.lit (.int .u8 0), .lit (.int .u8 0)], .agg [.lit (.int .u8 0), .lit (.int .u8 0)]]
/-- One of Go's own tables, pinned by name: the form's constant. -/
def laid_unicode_utf8_first : DataW Unit := Go.Pinned.utf8First

/-- 'archivumlaw27.ElementTable': WHATEVER THE INPUT: true; the input reads as it did. -/
def elementTableSpec : ChangeSpec := { name := "elementTable", fn := fun _ => fun
  | [d1, d2, d3] => { results := [.lit (.bool true)], args := [d1, d2, d3] }
  | _ => none }
def elementTableRow : OpenClaim := { program := "ytiikniopjcnphaadoor", sum := "f673963c2b49afa23a65fef6e71f2304fefdb332efb2191f3848447a254d30a2", func := "archivum/archivumlaw27.ElementTable", spec := "elementTable", inPlace := ["internal/bytealg.IndexByteString", "internal/bytealg.IndexString", "internal/bytealg.abigen_runtime_cmpstring"], unfollowed := true, recurses := true, named := ["unicode/utf8.first", "unicode/utf8.acceptRanges", "internal/bytealg.MaxLen"], apart := false, laid := [("unicode/utf8.acceptRanges", laid_unicode_utf8_acceptRanges), ("unicode/utf8.first", laid_unicode_utf8_first)] }
def ElementTableSaid : Prop := elementTableRow.holds Tryd.pinned (OpenSpec.ofChange elementTableSpec)

/-- ITS FALSE NEIGHBOUR: 'it returns false'. Refute it at one input. -/
def elementTableWrong : ChangeSpec := { name := "elementTable", fn := fun _ => fun
  | [d1, d2, d3] => { results := [.lit (.bool false)], args := [d1, d2, d3] }
  | _ => none }
def ElementTableWrongFalsely : Prop := elementTableRow.holds Tryd.pinned (OpenSpec.ofChange elementTableWrong)

/-- 'archivumlaw27.ElementTexts': WHATEVER THE INPUT: true; the input reads as it did. -/
def elementTextsSpec : ChangeSpec := { name := "elementTexts", fn := fun _ => fun
  | [d1, d2, d3] => { results := [.lit (.bool true)], args := [d1, d2, d3] }
  | _ => none }
def elementTextsRow : OpenClaim := { program := "ytiikniopjcnphaadoor", sum := "f673963c2b49afa23a65fef6e71f2304fefdb332efb2191f3848447a254d30a2", func := "archivum/archivumlaw27.ElementTexts", spec := "elementTexts", inPlace := ["internal/bytealg.IndexByteString", "internal/bytealg.IndexString", "internal/bytealg.abigen_runtime_cmpstring"], unfollowed := true, recurses := true, named := ["unicode/utf8.first", "unicode/utf8.acceptRanges", "internal/bytealg.MaxLen"], apart := false, laid := [("unicode/utf8.acceptRanges", laid_unicode_utf8_acceptRanges), ("unicode/utf8.first", laid_unicode_utf8_first)] }
def ElementTextsSaid : Prop := elementTextsRow.holds Tryd.pinned (OpenSpec.ofChange elementTextsSpec)

/-- ITS FALSE NEIGHBOUR: 'it returns false'. Refute it at one input. -/
def elementTextsWrong : ChangeSpec := { name := "elementTexts", fn := fun _ => fun
  | [d1, d2, d3] => { results := [.lit (.bool false)], args := [d1, d2, d3] }
  | _ => none }
def ElementTextsWrongFalsely : Prop := elementTextsRow.holds Tryd.pinned (OpenSpec.ofChange elementTextsWrong)

/-- 'archivumlaw27.ElementWords': WHATEVER THE INPUT: true; the input reads as it did. -/
def elementWordsSpec : ChangeSpec := { name := "elementWords", fn := fun _ => fun
  | [d1, d2] => { results := [.lit (.bool true)], args := [d1, d2] }
  | _ => none }
def elementWordsRow : OpenClaim := { program := "ytiikniopjcnphaadoor", sum := "f673963c2b49afa23a65fef6e71f2304fefdb332efb2191f3848447a254d30a2", func := "archivum/archivumlaw27.ElementWords", spec := "elementWords", inPlace := ["internal/bytealg.IndexByteString", "internal/bytealg.IndexString", "internal/bytealg.abigen_runtime_cmpstring"], unfollowed := true, recurses := true, named := ["unicode/utf8.first", "unicode/utf8.acceptRanges", "internal/bytealg.MaxLen"], apart := false, laid := [("unicode/utf8.acceptRanges", laid_unicode_utf8_acceptRanges), ("unicode/utf8.first", laid_unicode_utf8_first)] }
def ElementWordsSaid : Prop := elementWordsRow.holds Tryd.pinned (OpenSpec.ofChange elementWordsSpec)

/-- ITS FALSE NEIGHBOUR: 'it returns false'. Refute it at one input. -/
def elementWordsWrong : ChangeSpec := { name := "elementWords", fn := fun _ => fun
  | [d1, d2] => { results := [.lit (.bool false)], args := [d1, d2] }
  | _ => none }
def ElementWordsWrongFalsely : Prop := elementWordsRow.holds Tryd.pinned (OpenSpec.ofChange elementWordsWrong)

/-- 'archivumlaw27.ElementOrders': WHATEVER THE INPUT: true; the input reads as it did. -/
def elementOrdersSpec : ChangeSpec := { name := "elementOrders", fn := fun _ => fun
  | [d1, d2] => { results := [.lit (.bool true)], args := [d1, d2] }
  | _ => none }
def elementOrdersRow : OpenClaim := { program := "ytiikniopjcnphaadoor", sum := "f673963c2b49afa23a65fef6e71f2304fefdb332efb2191f3848447a254d30a2", func := "archivum/archivumlaw27.ElementOrders", spec := "elementOrders", inPlace := ["internal/bytealg.IndexByteString", "internal/bytealg.IndexString", "internal/bytealg.abigen_runtime_cmpstring"], unfollowed := true, recurses := true, named := ["unicode/utf8.first", "unicode/utf8.acceptRanges", "internal/bytealg.MaxLen"], apart := false, laid := [("unicode/utf8.acceptRanges", laid_unicode_utf8_acceptRanges), ("unicode/utf8.first", laid_unicode_utf8_first)] }
def ElementOrdersSaid : Prop := elementOrdersRow.holds Tryd.pinned (OpenSpec.ofChange elementOrdersSpec)

/-- ITS FALSE NEIGHBOUR: 'it returns false'. Refute it at one input. -/
def elementOrdersWrong : ChangeSpec := { name := "elementOrders", fn := fun _ => fun
  | [d1, d2] => { results := [.lit (.bool false)], args := [d1, d2] }
  | _ => none }
def ElementOrdersWrongFalsely : Prop := elementOrdersRow.holds Tryd.pinned (OpenSpec.ofChange elementOrdersWrong)

/-- 'archivumlaw27.ElementParts': WHATEVER THE INPUT: true; the input reads as it did. -/
def elementPartsSpec : ChangeSpec := { name := "elementParts", fn := fun _ => fun
  | [d1, d2, d3, d4] => { results := [.lit (.bool true)], args := [d1, d2, d3, d4] }
  | _ => none }
def elementPartsRow : OpenClaim := { program := "ytiikniopjcnphaadoor", sum := "f673963c2b49afa23a65fef6e71f2304fefdb332efb2191f3848447a254d30a2", func := "archivum/archivumlaw27.ElementParts", spec := "elementParts", inPlace := ["internal/bytealg.IndexByteString", "internal/bytealg.IndexString", "internal/bytealg.abigen_runtime_cmpstring"], unfollowed := true, recurses := true, named := ["unicode/utf8.first", "unicode/utf8.acceptRanges", "internal/bytealg.MaxLen"], apart := false, laid := [("unicode/utf8.acceptRanges", laid_unicode_utf8_acceptRanges), ("unicode/utf8.first", laid_unicode_utf8_first)] }
def ElementPartsSaid : Prop := elementPartsRow.holds Tryd.pinned (OpenSpec.ofChange elementPartsSpec)

/-- ITS FALSE NEIGHBOUR: 'it returns false'. Refute it at one input. -/
def elementPartsWrong : ChangeSpec := { name := "elementParts", fn := fun _ => fun
  | [d1, d2, d3, d4] => { results := [.lit (.bool false)], args := [d1, d2, d3, d4] }
  | _ => none }
def ElementPartsWrongFalsely : Prop := elementPartsRow.holds Tryd.pinned (OpenSpec.ofChange elementPartsWrong)

/-- 'archivumlaw27.ElementUnits': WHATEVER THE INPUT: true; the input reads as it did. -/
def elementUnitsSpec : ChangeSpec := { name := "elementUnits", fn := fun _ => fun
  | [d1, d2] => { results := [.lit (.bool true)], args := [d1, d2] }
  | _ => none }
def elementUnitsRow : OpenClaim := { program := "ytiikniopjcnphaadoor", sum := "f673963c2b49afa23a65fef6e71f2304fefdb332efb2191f3848447a254d30a2", func := "archivum/archivumlaw27.ElementUnits", spec := "elementUnits", inPlace := ["internal/bytealg.IndexByteString", "internal/bytealg.IndexString", "internal/bytealg.abigen_runtime_cmpstring"], unfollowed := true, recurses := true, named := ["unicode/utf8.first", "unicode/utf8.acceptRanges", "internal/bytealg.MaxLen"], apart := false, laid := [("unicode/utf8.acceptRanges", laid_unicode_utf8_acceptRanges), ("unicode/utf8.first", laid_unicode_utf8_first)] }
def ElementUnitsSaid : Prop := elementUnitsRow.holds Tryd.pinned (OpenSpec.ofChange elementUnitsSpec)

/-- ITS FALSE NEIGHBOUR: 'it returns false'. Refute it at one input. -/
def elementUnitsWrong : ChangeSpec := { name := "elementUnits", fn := fun _ => fun
  | [d1, d2] => { results := [.lit (.bool false)], args := [d1, d2] }
  | _ => none }
def ElementUnitsWrongFalsely : Prop := elementUnitsRow.holds Tryd.pinned (OpenSpec.ofChange elementUnitsWrong)

/- THE SECOND FORM. 'bulk': how many values and letters a reading holds, each counted each time it is reached (what is shared counts as often as it is met; a slice's spare places count too). A statement '..UptoSaid' is the law's where the arguments, and the package variables that the reading takes, are together of bulk at most 1048576: NARROWER than '..Said'. Prove '..Said' where nothing that the law and all that it calls make is longer than what came in: it says more and counts as full. Else prove '..UptoSaid'. A law counts once. -/
mutual
def uptoBulk {H : Type} : DataW H → Nat
  | .lit (.string bytes) => bytes.length + 1
  | .lit _ => 1
  | .nil => 1
  | .ptr d => uptoBulk d + 1
  | .slice elems spare => uptoBulkAll elems + uptoBulkAll spare + 1
  | .agg parts => uptoBulkAll parts + 1
  | .iface _ d => uptoBulk d + 1
  | .map entries => uptoBulkEntries entries + 1
  | .held _ => 1
def uptoBulkAll {H : Type} : List (DataW H) → Nat
  | [] => 0
  | d :: r => uptoBulk d + uptoBulkAll r
def uptoBulkEntries {H : Type} : List (Lit × DataW H) → Nat
  | [] => 0
  | x :: r => uptoBulkEntry x + uptoBulkEntries r
def uptoBulkEntry {H : Type} : Lit × DataW H → Nat
  | (.string bytes, d) => bytes.length + uptoBulk d + 1
  | (_, d) => uptoBulk d + 1
 end
def uptoSmall : (H : Type) → List (DataW H) → Bool := fun _ ds => decide (uptoBulkAll ds ≤ 1048576)
def OpenSpec.upto (s : _root_.Go.ChangeSpec) : _root_.Go.OpenSpec := { _root_.Go.OpenSpec.ofChange s with cond := some uptoSmall }

/-- 'archivumlaw27.ElementTable', WHERE WHAT IT READS IS OF BULK AT MOST 1048576: true; the input reads as it did. -/
def elementTableUptoRow : OpenClaim := { program := "ytiikniopjcnphaadoor", sum := "f673963c2b49afa23a65fef6e71f2304fefdb332efb2191f3848447a254d30a2", func := "archivum/archivumlaw27.ElementTable", spec := "elementTable", inPlace := ["internal/bytealg.IndexByteString", "internal/bytealg.IndexString", "internal/bytealg.abigen_runtime_cmpstring"], unfollowed := true, recurses := true, named := ["unicode/utf8.first", "unicode/utf8.acceptRanges", "internal/bytealg.MaxLen"], apart := false, laid := [("unicode/utf8.acceptRanges", laid_unicode_utf8_acceptRanges), ("unicode/utf8.first", laid_unicode_utf8_first)], narrowed := true }
def ElementTableUptoSaid : Prop := elementTableUptoRow.holds Tryd.pinned (OpenSpec.upto elementTableSpec)

/-- 'archivumlaw27.ElementTexts', WHERE WHAT IT READS IS OF BULK AT MOST 1048576: true; the input reads as it did. -/
def elementTextsUptoRow : OpenClaim := { program := "ytiikniopjcnphaadoor", sum := "f673963c2b49afa23a65fef6e71f2304fefdb332efb2191f3848447a254d30a2", func := "archivum/archivumlaw27.ElementTexts", spec := "elementTexts", inPlace := ["internal/bytealg.IndexByteString", "internal/bytealg.IndexString", "internal/bytealg.abigen_runtime_cmpstring"], unfollowed := true, recurses := true, named := ["unicode/utf8.first", "unicode/utf8.acceptRanges", "internal/bytealg.MaxLen"], apart := false, laid := [("unicode/utf8.acceptRanges", laid_unicode_utf8_acceptRanges), ("unicode/utf8.first", laid_unicode_utf8_first)], narrowed := true }
def ElementTextsUptoSaid : Prop := elementTextsUptoRow.holds Tryd.pinned (OpenSpec.upto elementTextsSpec)

/-- 'archivumlaw27.ElementWords', WHERE WHAT IT READS IS OF BULK AT MOST 1048576: true; the input reads as it did. -/
def elementWordsUptoRow : OpenClaim := { program := "ytiikniopjcnphaadoor", sum := "f673963c2b49afa23a65fef6e71f2304fefdb332efb2191f3848447a254d30a2", func := "archivum/archivumlaw27.ElementWords", spec := "elementWords", inPlace := ["internal/bytealg.IndexByteString", "internal/bytealg.IndexString", "internal/bytealg.abigen_runtime_cmpstring"], unfollowed := true, recurses := true, named := ["unicode/utf8.first", "unicode/utf8.acceptRanges", "internal/bytealg.MaxLen"], apart := false, laid := [("unicode/utf8.acceptRanges", laid_unicode_utf8_acceptRanges), ("unicode/utf8.first", laid_unicode_utf8_first)], narrowed := true }
def ElementWordsUptoSaid : Prop := elementWordsUptoRow.holds Tryd.pinned (OpenSpec.upto elementWordsSpec)

/-- 'archivumlaw27.ElementOrders', WHERE WHAT IT READS IS OF BULK AT MOST 1048576: true; the input reads as it did. -/
def elementOrdersUptoRow : OpenClaim := { program := "ytiikniopjcnphaadoor", sum := "f673963c2b49afa23a65fef6e71f2304fefdb332efb2191f3848447a254d30a2", func := "archivum/archivumlaw27.ElementOrders", spec := "elementOrders", inPlace := ["internal/bytealg.IndexByteString", "internal/bytealg.IndexString", "internal/bytealg.abigen_runtime_cmpstring"], unfollowed := true, recurses := true, named := ["unicode/utf8.first", "unicode/utf8.acceptRanges", "internal/bytealg.MaxLen"], apart := false, laid := [("unicode/utf8.acceptRanges", laid_unicode_utf8_acceptRanges), ("unicode/utf8.first", laid_unicode_utf8_first)], narrowed := true }
def ElementOrdersUptoSaid : Prop := elementOrdersUptoRow.holds Tryd.pinned (OpenSpec.upto elementOrdersSpec)

/-- 'archivumlaw27.ElementParts', WHERE WHAT IT READS IS OF BULK AT MOST 1048576: true; the input reads as it did. -/
def elementPartsUptoRow : OpenClaim := { program := "ytiikniopjcnphaadoor", sum := "f673963c2b49afa23a65fef6e71f2304fefdb332efb2191f3848447a254d30a2", func := "archivum/archivumlaw27.ElementParts", spec := "elementParts", inPlace := ["internal/bytealg.IndexByteString", "internal/bytealg.IndexString", "internal/bytealg.abigen_runtime_cmpstring"], unfollowed := true, recurses := true, named := ["unicode/utf8.first", "unicode/utf8.acceptRanges", "internal/bytealg.MaxLen"], apart := false, laid := [("unicode/utf8.acceptRanges", laid_unicode_utf8_acceptRanges), ("unicode/utf8.first", laid_unicode_utf8_first)], narrowed := true }
def ElementPartsUptoSaid : Prop := elementPartsUptoRow.holds Tryd.pinned (OpenSpec.upto elementPartsSpec)

/-- 'archivumlaw27.ElementUnits', WHERE WHAT IT READS IS OF BULK AT MOST 1048576: true; the input reads as it did. -/
def elementUnitsUptoRow : OpenClaim := { program := "ytiikniopjcnphaadoor", sum := "f673963c2b49afa23a65fef6e71f2304fefdb332efb2191f3848447a254d30a2", func := "archivum/archivumlaw27.ElementUnits", spec := "elementUnits", inPlace := ["internal/bytealg.IndexByteString", "internal/bytealg.IndexString", "internal/bytealg.abigen_runtime_cmpstring"], unfollowed := true, recurses := true, named := ["unicode/utf8.first", "unicode/utf8.acceptRanges", "internal/bytealg.MaxLen"], apart := false, laid := [("unicode/utf8.acceptRanges", laid_unicode_utf8_acceptRanges), ("unicode/utf8.first", laid_unicode_utf8_first)], narrowed := true }
def ElementUnitsUptoSaid : Prop := elementUnitsUptoRow.holds Tryd.pinned (OpenSpec.upto elementUnitsSpec)

end Rows
end Go.Proofs.YtiikniopjcnphaaDoor
