/-
  NARROWER THAN 'FOR EVERY INPUT', by the rows' own cells (each row's printed sentence says how): RelationChecks: laid · RelationChanges: laid · RelationAsks: laid · RelationInherits: laid · RelationParents: laid · RelationEnds: laid · RelationBoth: laid · RelationAdds: laid.
  DERIVED. THE GIVEN ROWS OF THIS SEAT. 8 by the template 'for every input the law returns true; each argument reads behind the call as it read before'; 0 by the template 'total and deterministic' (their statements: YtfghbendiofbeaaGreatDoorTotals.lean).
  GIVEN WITH THE SEED: the statements are not yours to turn. If you find one false, say at which input.
  Laid BY PROGRAM, IN A SANDBOX (cutbox-rows.mjs): the forced cells as the released guide's own fill.sh prints them over the translation 5273435fa81be227… (all of the seat's roots in one cut). By AI agents, Wed Nov 11 2026. No macro, syntax, notation, axiom, sorry.
-/
import Derived.Test.YtfghbendiofbeaaGreatDoorChecked
import GoSem.Claim
import GoSem.ClaimJoined
import GoSem.ClaimMapViews
import Derived.JoinedTies
import Derived.KernelRfl
namespace Go.Proofs.YtfghbendiofbeaaGreatDoor
/- THE CELL 'sum', in the pinned program and in every row, IS THE sha256 OF THE DUMP (.gsa) THAT YtfghbendiofbeaaGreatDoorProg.lean LOADS. Nothing in Lean hashes anything: it is a label: what it is worth is what the hold of that sum in a sandbox is worth. -/
noncomputable def Tryz.pinned : Pinned := { name := "ytfghbendiofbeaagreatdoor", sum := "5273435fa81be2277c542567cfee9453b4bf04f1167f77677c6b5ac36bfdf3d3", checked := Tryz.checked }
namespace Rows
def none {H : Type} : Left H := { results := [], args := [] }

/- WHAT THE LISTED PACKAGE-LEVEL VARIABLES READ AS WHEN THE CALL BEGINS. Each datum BY PROGRAM (the guide's laid-datum.mjs) off the statement by which the dump's own 'gosem.cut.vars' lays the variable. In a bare row this is a premise. The card (YtfghbendiofbeaaGreatDoorCards.lean) ties it to the program's text. -/
def laid_math_bits_deBruijn32tab {H : Type} : DataW H := .agg [.lit (.int .u8 0), .lit (.int .u8 1), .lit (.int .u8 28), .lit (.int .u8 2), .lit (.int .u8 29), .lit (.int .u8 14), .lit (.int .u8 24), .lit (.int .u8 3), .lit (.int .u8 30), .lit (.int .u8 22), .lit (.int .u8 20), .lit (.int .u8 15), .lit (.int .u8 25), .lit (.int .u8 17), .lit (.int .u8 4), .lit (.int .u8 8), .lit (.int .u8 31), .lit (.int .u8 27), .lit (.int .u8 13), .lit (.int .u8 23), .lit (.int .u8 21), .lit (.int .u8 19), .lit (.int .u8 16), .lit (.int .u8 7), .lit (.int .u8 26), .lit (.int .u8 12), .lit (.int .u8 18), .lit (.int .u8 6), .lit (.int .u8 11), .lit (.int .u8 5), .lit (.int .u8 10), .lit (.int .u8 9)]
def laid_math_bits_deBruijn64tab {H : Type} : DataW H := .agg [.lit (.int .u8 0), .lit (.int .u8 1), .lit (.int .u8 56), .lit (.int .u8 2), .lit (.int .u8 57), .lit (.int .u8 49), .lit (.int .u8 28), .lit (.int .u8 3), .lit (.int .u8 61), .lit (.int .u8 58), .lit (.int .u8 42), .lit (.int .u8 50), .lit (.int .u8 38), .lit (.int .u8 29), .lit (.int .u8 17), .lit (.int .u8 4), .lit (.int .u8 62), .lit (.int .u8 47), .lit (.int .u8 59), .lit (.int .u8 36), .lit (.int .u8 45), .lit (.int .u8 43), .lit (.int .u8 51), .lit (.int .u8 22), .lit (.int .u8 53), .lit (.int .u8 39), .lit (.int .u8 33), .lit (.int .u8 30), .lit (.int .u8 24), .lit (.int .u8 18), .lit (.int .u8 12), .lit (.int .u8 5), .lit (.int .u8 63), .lit (.int .u8 55), .lit (.int .u8 48), .lit (.int .u8 27), .lit (.int .u8 60), .lit (.int .u8 41), .lit (.int .u8 37), .lit (.int .u8 16), .lit (.int .u8 46), .lit (.int .u8 35), .lit (.int .u8 44), .lit (.int .u8 21), .lit (.int .u8 52), .lit (.int .u8 32), .lit (.int .u8 23), .lit (.int .u8 11), .lit (.int .u8 54), .lit (.int .u8 26), .lit (.int .u8 40), .lit (.int .u8 15), .lit (.int .u8 34), .lit (.int .u8 20), .lit (.int .u8 31), .lit (.int .u8 10), .lit (.int .u8 25), .lit (.int .u8 14), .lit (.int .u8 19), .lit (.int .u8 9), .lit (.int .u8 13), .lit (.int .u8 8), .lit (.int .u8 7), .lit (.int .u8 6)]
def laid_internal_strconv_uint64pow10 {H : Type} : DataW H := .agg [.lit (.int .u64 1), .lit (.int .u64 10), .lit (.int .u64 100), .lit (.int .u64 1000), .lit (.int .u64 10000), .lit (.int .u64 100000), .lit (.int .u64 1000000), .lit (.int .u64 10000000), .lit (.int .u64 100000000), .lit (.int .u64 1000000000), .lit (.int .u64 10000000000), .lit (.int .u64 100000000000), .lit (.int .u64 1000000000000), .lit (.int .u64 10000000000000), .lit (.int .u64 100000000000000), .lit (.int .u64 1000000000000000), .lit (.int .u64 10000000000000000), .lit (.int .u64 100000000000000000), .lit (.int .u64 1000000000000000000), .lit (.int .u64 10000000000000000000)]

/-- 'archivumlaw26.RelationChecks': WHATEVER THE INPUT: true; the input reads as it did. -/
def relationChecksSpec : ChangeSpec := { name := "relationChecks", fn := fun _ => fun
  | [d1, d2, d3] => { results := [.lit (.bool true)], args := [d1, d2, d3] }
  | _ => none }
def relationChecksRow : OpenClaim := { program := "ytfghbendiofbeaagreatdoor", sum := "5273435fa81be2277c542567cfee9453b4bf04f1167f77677c6b5ac36bfdf3d3", func := "archivum/archivumlaw26.RelationChecks", spec := "relationChecks", inPlace := ["internal/bytealg.IndexByteString", "internal/bytealg.IndexString", "slices.overlaps[archivum/api.Relation]"], unfollowed := true, recurses := true, named := ["internal/bytealg.MaxLen", "internal/strconv.uint64pow10", "math/bits.deBruijn32tab", "math/bits.deBruijn64tab"], apart := false, laid := [("math/bits.deBruijn32tab", laid_math_bits_deBruijn32tab), ("math/bits.deBruijn64tab", laid_math_bits_deBruijn64tab), ("internal/strconv.uint64pow10", laid_internal_strconv_uint64pow10)] }
def RelationChecksSaid : Prop := relationChecksRow.holds Tryz.pinned (OpenSpec.ofChange relationChecksSpec)

/-- ITS FALSE NEIGHBOUR: 'it returns false'. Refute it at one input. -/
def relationChecksWrong : ChangeSpec := { name := "relationChecks", fn := fun _ => fun
  | [d1, d2, d3] => { results := [.lit (.bool false)], args := [d1, d2, d3] }
  | _ => none }
def RelationChecksWrongFalsely : Prop := relationChecksRow.holds Tryz.pinned (OpenSpec.ofChange relationChecksWrong)

/-- 'archivumlaw26.RelationChanges': WHATEVER THE INPUT: true; the input reads as it did. -/
def relationChangesSpec : ChangeSpec := { name := "relationChanges", fn := fun _ => fun
  | [d1, d2, d3, d4] => { results := [.lit (.bool true)], args := [d1, d2, d3, d4] }
  | _ => none }
def relationChangesRow : OpenClaim := { program := "ytfghbendiofbeaagreatdoor", sum := "5273435fa81be2277c542567cfee9453b4bf04f1167f77677c6b5ac36bfdf3d3", func := "archivum/archivumlaw26.RelationChanges", spec := "relationChanges", inPlace := ["internal/bytealg.IndexByteString", "internal/bytealg.IndexString", "slices.overlaps[archivum/api.Relation]"], unfollowed := true, recurses := true, named := ["internal/bytealg.MaxLen", "internal/strconv.uint64pow10", "math/bits.deBruijn32tab", "math/bits.deBruijn64tab"], apart := false, laid := [("math/bits.deBruijn32tab", laid_math_bits_deBruijn32tab), ("math/bits.deBruijn64tab", laid_math_bits_deBruijn64tab), ("internal/strconv.uint64pow10", laid_internal_strconv_uint64pow10)] }
def RelationChangesSaid : Prop := relationChangesRow.holds Tryz.pinned (OpenSpec.ofChange relationChangesSpec)

/-- ITS FALSE NEIGHBOUR: 'it returns false'. Refute it at one input. -/
def relationChangesWrong : ChangeSpec := { name := "relationChanges", fn := fun _ => fun
  | [d1, d2, d3, d4] => { results := [.lit (.bool false)], args := [d1, d2, d3, d4] }
  | _ => none }
def RelationChangesWrongFalsely : Prop := relationChangesRow.holds Tryz.pinned (OpenSpec.ofChange relationChangesWrong)

/-- 'archivumlaw26.RelationAsks': WHATEVER THE INPUT: true; the input reads as it did. -/
def relationAsksSpec : ChangeSpec := { name := "relationAsks", fn := fun _ => fun
  | [d1, d2, d3, d4, d5, d6] => { results := [.lit (.bool true)], args := [d1, d2, d3, d4, d5, d6] }
  | _ => none }
def relationAsksRow : OpenClaim := { program := "ytfghbendiofbeaagreatdoor", sum := "5273435fa81be2277c542567cfee9453b4bf04f1167f77677c6b5ac36bfdf3d3", func := "archivum/archivumlaw26.RelationAsks", spec := "relationAsks", inPlace := ["internal/bytealg.IndexByteString", "internal/bytealg.IndexString", "slices.overlaps[archivum/api.Relation]"], unfollowed := true, recurses := true, named := ["internal/bytealg.MaxLen", "internal/strconv.uint64pow10", "math/bits.deBruijn32tab", "math/bits.deBruijn64tab"], apart := false, laid := [("math/bits.deBruijn32tab", laid_math_bits_deBruijn32tab), ("math/bits.deBruijn64tab", laid_math_bits_deBruijn64tab), ("internal/strconv.uint64pow10", laid_internal_strconv_uint64pow10)] }
def RelationAsksSaid : Prop := relationAsksRow.holds Tryz.pinned (OpenSpec.ofChange relationAsksSpec)

/-- ITS FALSE NEIGHBOUR: 'it returns false'. Refute it at one input. -/
def relationAsksWrong : ChangeSpec := { name := "relationAsks", fn := fun _ => fun
  | [d1, d2, d3, d4, d5, d6] => { results := [.lit (.bool false)], args := [d1, d2, d3, d4, d5, d6] }
  | _ => none }
def RelationAsksWrongFalsely : Prop := relationAsksRow.holds Tryz.pinned (OpenSpec.ofChange relationAsksWrong)

/-- 'archivumlaw26.RelationInherits': WHATEVER THE INPUT: true; the input reads as it did. -/
def relationInheritsSpec : ChangeSpec := { name := "relationInherits", fn := fun _ => fun
  | [d1, d2, d3, d4, d5, d6] => { results := [.lit (.bool true)], args := [d1, d2, d3, d4, d5, d6] }
  | _ => none }
def relationInheritsRow : OpenClaim := { program := "ytfghbendiofbeaagreatdoor", sum := "5273435fa81be2277c542567cfee9453b4bf04f1167f77677c6b5ac36bfdf3d3", func := "archivum/archivumlaw26.RelationInherits", spec := "relationInherits", inPlace := ["internal/bytealg.IndexByteString", "internal/bytealg.IndexString", "slices.overlaps[archivum/api.Relation]"], unfollowed := true, recurses := true, named := ["internal/bytealg.MaxLen", "internal/strconv.uint64pow10", "math/bits.deBruijn32tab", "math/bits.deBruijn64tab"], apart := false, laid := [("math/bits.deBruijn32tab", laid_math_bits_deBruijn32tab), ("math/bits.deBruijn64tab", laid_math_bits_deBruijn64tab), ("internal/strconv.uint64pow10", laid_internal_strconv_uint64pow10)] }
def RelationInheritsSaid : Prop := relationInheritsRow.holds Tryz.pinned (OpenSpec.ofChange relationInheritsSpec)

/-- ITS FALSE NEIGHBOUR: 'it returns false'. Refute it at one input. -/
def relationInheritsWrong : ChangeSpec := { name := "relationInherits", fn := fun _ => fun
  | [d1, d2, d3, d4, d5, d6] => { results := [.lit (.bool false)], args := [d1, d2, d3, d4, d5, d6] }
  | _ => none }
def RelationInheritsWrongFalsely : Prop := relationInheritsRow.holds Tryz.pinned (OpenSpec.ofChange relationInheritsWrong)

/-- 'archivumlaw26.RelationParents': WHATEVER THE INPUT: true; the input reads as it did. -/
def relationParentsSpec : ChangeSpec := { name := "relationParents", fn := fun _ => fun
  | [d1, d2, d3, d4, d5, d6] => { results := [.lit (.bool true)], args := [d1, d2, d3, d4, d5, d6] }
  | _ => none }
def relationParentsRow : OpenClaim := { program := "ytfghbendiofbeaagreatdoor", sum := "5273435fa81be2277c542567cfee9453b4bf04f1167f77677c6b5ac36bfdf3d3", func := "archivum/archivumlaw26.RelationParents", spec := "relationParents", inPlace := ["internal/bytealg.IndexByteString", "internal/bytealg.IndexString", "slices.overlaps[archivum/api.Relation]"], unfollowed := true, recurses := true, named := ["internal/bytealg.MaxLen", "internal/strconv.uint64pow10", "math/bits.deBruijn32tab", "math/bits.deBruijn64tab"], apart := false, laid := [("math/bits.deBruijn32tab", laid_math_bits_deBruijn32tab), ("math/bits.deBruijn64tab", laid_math_bits_deBruijn64tab), ("internal/strconv.uint64pow10", laid_internal_strconv_uint64pow10)] }
def RelationParentsSaid : Prop := relationParentsRow.holds Tryz.pinned (OpenSpec.ofChange relationParentsSpec)

/-- ITS FALSE NEIGHBOUR: 'it returns false'. Refute it at one input. -/
def relationParentsWrong : ChangeSpec := { name := "relationParents", fn := fun _ => fun
  | [d1, d2, d3, d4, d5, d6] => { results := [.lit (.bool false)], args := [d1, d2, d3, d4, d5, d6] }
  | _ => none }
def RelationParentsWrongFalsely : Prop := relationParentsRow.holds Tryz.pinned (OpenSpec.ofChange relationParentsWrong)

/-- 'archivumlaw26.RelationEnds': WHATEVER THE INPUT: true; the input reads as it did. -/
def relationEndsSpec : ChangeSpec := { name := "relationEnds", fn := fun _ => fun
  | [d1, d2, d3, d4, d5, d6, d7] => { results := [.lit (.bool true)], args := [d1, d2, d3, d4, d5, d6, d7] }
  | _ => none }
def relationEndsRow : OpenClaim := { program := "ytfghbendiofbeaagreatdoor", sum := "5273435fa81be2277c542567cfee9453b4bf04f1167f77677c6b5ac36bfdf3d3", func := "archivum/archivumlaw26.RelationEnds", spec := "relationEnds", inPlace := ["internal/bytealg.IndexByteString", "internal/bytealg.IndexString", "slices.overlaps[archivum/api.Relation]"], unfollowed := true, recurses := true, named := ["internal/bytealg.MaxLen", "internal/strconv.uint64pow10", "math/bits.deBruijn32tab", "math/bits.deBruijn64tab"], apart := false, laid := [("math/bits.deBruijn32tab", laid_math_bits_deBruijn32tab), ("math/bits.deBruijn64tab", laid_math_bits_deBruijn64tab), ("internal/strconv.uint64pow10", laid_internal_strconv_uint64pow10)] }
def RelationEndsSaid : Prop := relationEndsRow.holds Tryz.pinned (OpenSpec.ofChange relationEndsSpec)

/-- ITS FALSE NEIGHBOUR: 'it returns false'. Refute it at one input. -/
def relationEndsWrong : ChangeSpec := { name := "relationEnds", fn := fun _ => fun
  | [d1, d2, d3, d4, d5, d6, d7] => { results := [.lit (.bool false)], args := [d1, d2, d3, d4, d5, d6, d7] }
  | _ => none }
def RelationEndsWrongFalsely : Prop := relationEndsRow.holds Tryz.pinned (OpenSpec.ofChange relationEndsWrong)

/-- 'archivumlaw26.RelationBoth': WHATEVER THE INPUT: true; the input reads as it did. -/
def relationBothSpec : ChangeSpec := { name := "relationBoth", fn := fun _ => fun
  | [d1, d2, d3, d4, d5] => { results := [.lit (.bool true)], args := [d1, d2, d3, d4, d5] }
  | _ => none }
def relationBothRow : OpenClaim := { program := "ytfghbendiofbeaagreatdoor", sum := "5273435fa81be2277c542567cfee9453b4bf04f1167f77677c6b5ac36bfdf3d3", func := "archivum/archivumlaw26.RelationBoth", spec := "relationBoth", inPlace := ["internal/bytealg.IndexByteString", "internal/bytealg.IndexString", "slices.overlaps[archivum/api.Relation]"], unfollowed := true, recurses := true, named := ["internal/bytealg.MaxLen", "internal/strconv.uint64pow10", "math/bits.deBruijn32tab", "math/bits.deBruijn64tab"], apart := false, laid := [("math/bits.deBruijn32tab", laid_math_bits_deBruijn32tab), ("math/bits.deBruijn64tab", laid_math_bits_deBruijn64tab), ("internal/strconv.uint64pow10", laid_internal_strconv_uint64pow10)] }
def RelationBothSaid : Prop := relationBothRow.holds Tryz.pinned (OpenSpec.ofChange relationBothSpec)

/-- ITS FALSE NEIGHBOUR: 'it returns false'. Refute it at one input. -/
def relationBothWrong : ChangeSpec := { name := "relationBoth", fn := fun _ => fun
  | [d1, d2, d3, d4, d5] => { results := [.lit (.bool false)], args := [d1, d2, d3, d4, d5] }
  | _ => none }
def RelationBothWrongFalsely : Prop := relationBothRow.holds Tryz.pinned (OpenSpec.ofChange relationBothWrong)

/-- 'archivumlaw26.RelationAdds': WHATEVER THE INPUT: true; the input reads as it did. -/
def relationAddsSpec : ChangeSpec := { name := "relationAdds", fn := fun _ => fun
  | [d1, d2, d3, d4, d5, d6] => { results := [.lit (.bool true)], args := [d1, d2, d3, d4, d5, d6] }
  | _ => none }
def relationAddsRow : OpenClaim := { program := "ytfghbendiofbeaagreatdoor", sum := "5273435fa81be2277c542567cfee9453b4bf04f1167f77677c6b5ac36bfdf3d3", func := "archivum/archivumlaw26.RelationAdds", spec := "relationAdds", inPlace := ["internal/bytealg.IndexByteString", "internal/bytealg.IndexString", "slices.overlaps[archivum/api.Relation]"], unfollowed := true, recurses := true, named := ["internal/bytealg.MaxLen", "internal/strconv.uint64pow10", "math/bits.deBruijn32tab", "math/bits.deBruijn64tab"], apart := false, laid := [("math/bits.deBruijn32tab", laid_math_bits_deBruijn32tab), ("math/bits.deBruijn64tab", laid_math_bits_deBruijn64tab), ("internal/strconv.uint64pow10", laid_internal_strconv_uint64pow10)] }
def RelationAddsSaid : Prop := relationAddsRow.holds Tryz.pinned (OpenSpec.ofChange relationAddsSpec)

/-- ITS FALSE NEIGHBOUR: 'it returns false'. Refute it at one input. -/
def relationAddsWrong : ChangeSpec := { name := "relationAdds", fn := fun _ => fun
  | [d1, d2, d3, d4, d5, d6] => { results := [.lit (.bool false)], args := [d1, d2, d3, d4, d5, d6] }
  | _ => none }
def RelationAddsWrongFalsely : Prop := relationAddsRow.holds Tryz.pinned (OpenSpec.ofChange relationAddsWrong)

/- THE SECOND FORM. 'bulk': how many values and letters a reading holds, each counted each time it is reached (what is shared counts as often as it is met; a slice's spare places count too). A statement '..UptoSaid' is the law's where the arguments, and the package variables that the reading takes, are together of bulk at most 1048576: NARROWER than '..Said'. Prove '..Said' where nothing that the law and all that it calls make is longer than what came in: it says more and counts as full. Else prove '..UptoSaid'. A law counts once. -/
mutual
def uptoBulk {H : Type} : DataW H → Nat
  | .lit (.string bytes) => bytes.length + 1
  | .lit _ => 1
  | .nil => 1
  | .ptr d => uptoBulk d + 1
  | .slice elems spare => uptoBulkAll elems + uptoBulkAll spare + 1
  | .agg parts => uptoBulkAll parts + 1
  | .iface _ d => uptoBulk d + 1
  | .map entries => uptoBulkEntries entries + 1
  | .held _ => 1
def uptoBulkAll {H : Type} : List (DataW H) → Nat
  | [] => 0
  | d :: r => uptoBulk d + uptoBulkAll r
def uptoBulkEntries {H : Type} : List (Lit × DataW H) → Nat
  | [] => 0
  | x :: r => uptoBulkEntry x + uptoBulkEntries r
def uptoBulkEntry {H : Type} : Lit × DataW H → Nat
  | (.string bytes, d) => bytes.length + uptoBulk d + 1
  | (_, d) => uptoBulk d + 1
 end
def uptoSmall : (H : Type) → List (DataW H) → Bool := fun _ ds => decide (uptoBulkAll ds ≤ 1048576)
def OpenSpec.upto (s : _root_.Go.ChangeSpec) : _root_.Go.OpenSpec := { _root_.Go.OpenSpec.ofChange s with cond := some uptoSmall }

/-- 'archivumlaw26.RelationChecks', WHERE WHAT IT READS IS OF BULK AT MOST 1048576: true; the input reads as it did. -/
def relationChecksUptoRow : OpenClaim := { program := "ytfghbendiofbeaagreatdoor", sum := "5273435fa81be2277c542567cfee9453b4bf04f1167f77677c6b5ac36bfdf3d3", func := "archivum/archivumlaw26.RelationChecks", spec := "relationChecks", inPlace := ["internal/bytealg.IndexByteString", "internal/bytealg.IndexString", "slices.overlaps[archivum/api.Relation]"], unfollowed := true, recurses := true, named := ["internal/bytealg.MaxLen", "internal/strconv.uint64pow10", "math/bits.deBruijn32tab", "math/bits.deBruijn64tab"], apart := false, laid := [("math/bits.deBruijn32tab", laid_math_bits_deBruijn32tab), ("math/bits.deBruijn64tab", laid_math_bits_deBruijn64tab), ("internal/strconv.uint64pow10", laid_internal_strconv_uint64pow10)], narrowed := true }
def RelationChecksUptoSaid : Prop := relationChecksUptoRow.holds Tryz.pinned (OpenSpec.upto relationChecksSpec)

/-- 'archivumlaw26.RelationChanges', WHERE WHAT IT READS IS OF BULK AT MOST 1048576: true; the input reads as it did. -/
def relationChangesUptoRow : OpenClaim := { program := "ytfghbendiofbeaagreatdoor", sum := "5273435fa81be2277c542567cfee9453b4bf04f1167f77677c6b5ac36bfdf3d3", func := "archivum/archivumlaw26.RelationChanges", spec := "relationChanges", inPlace := ["internal/bytealg.IndexByteString", "internal/bytealg.IndexString", "slices.overlaps[archivum/api.Relation]"], unfollowed := true, recurses := true, named := ["internal/bytealg.MaxLen", "internal/strconv.uint64pow10", "math/bits.deBruijn32tab", "math/bits.deBruijn64tab"], apart := false, laid := [("math/bits.deBruijn32tab", laid_math_bits_deBruijn32tab), ("math/bits.deBruijn64tab", laid_math_bits_deBruijn64tab), ("internal/strconv.uint64pow10", laid_internal_strconv_uint64pow10)], narrowed := true }
def RelationChangesUptoSaid : Prop := relationChangesUptoRow.holds Tryz.pinned (OpenSpec.upto relationChangesSpec)

/-- 'archivumlaw26.RelationAsks', WHERE WHAT IT READS IS OF BULK AT MOST 1048576: true; the input reads as it did. -/
def relationAsksUptoRow : OpenClaim := { program := "ytfghbendiofbeaagreatdoor", sum := "5273435fa81be2277c542567cfee9453b4bf04f1167f77677c6b5ac36bfdf3d3", func := "archivum/archivumlaw26.RelationAsks", spec := "relationAsks", inPlace := ["internal/bytealg.IndexByteString", "internal/bytealg.IndexString", "slices.overlaps[archivum/api.Relation]"], unfollowed := true, recurses := true, named := ["internal/bytealg.MaxLen", "internal/strconv.uint64pow10", "math/bits.deBruijn32tab", "math/bits.deBruijn64tab"], apart := false, laid := [("math/bits.deBruijn32tab", laid_math_bits_deBruijn32tab), ("math/bits.deBruijn64tab", laid_math_bits_deBruijn64tab), ("internal/strconv.uint64pow10", laid_internal_strconv_uint64pow10)], narrowed := true }
def RelationAsksUptoSaid : Prop := relationAsksUptoRow.holds Tryz.pinned (OpenSpec.upto relationAsksSpec)

/-- 'archivumlaw26.RelationInherits', WHERE WHAT IT READS IS OF BULK AT MOST 1048576: true; the input reads as it did. -/
def relationInheritsUptoRow : OpenClaim := { program := "ytfghbendiofbeaagreatdoor", sum := "5273435fa81be2277c542567cfee9453b4bf04f1167f77677c6b5ac36bfdf3d3", func := "archivum/archivumlaw26.RelationInherits", spec := "relationInherits", inPlace := ["internal/bytealg.IndexByteString", "internal/bytealg.IndexString", "slices.overlaps[archivum/api.Relation]"], unfollowed := true, recurses := true, named := ["internal/bytealg.MaxLen", "internal/strconv.uint64pow10", "math/bits.deBruijn32tab", "math/bits.deBruijn64tab"], apart := false, laid := [("math/bits.deBruijn32tab", laid_math_bits_deBruijn32tab), ("math/bits.deBruijn64tab", laid_math_bits_deBruijn64tab), ("internal/strconv.uint64pow10", laid_internal_strconv_uint64pow10)], narrowed := true }
def RelationInheritsUptoSaid : Prop := relationInheritsUptoRow.holds Tryz.pinned (OpenSpec.upto relationInheritsSpec)

/-- 'archivumlaw26.RelationParents', WHERE WHAT IT READS IS OF BULK AT MOST 1048576: true; the input reads as it did. -/
def relationParentsUptoRow : OpenClaim := { program := "ytfghbendiofbeaagreatdoor", sum := "5273435fa81be2277c542567cfee9453b4bf04f1167f77677c6b5ac36bfdf3d3", func := "archivum/archivumlaw26.RelationParents", spec := "relationParents", inPlace := ["internal/bytealg.IndexByteString", "internal/bytealg.IndexString", "slices.overlaps[archivum/api.Relation]"], unfollowed := true, recurses := true, named := ["internal/bytealg.MaxLen", "internal/strconv.uint64pow10", "math/bits.deBruijn32tab", "math/bits.deBruijn64tab"], apart := false, laid := [("math/bits.deBruijn32tab", laid_math_bits_deBruijn32tab), ("math/bits.deBruijn64tab", laid_math_bits_deBruijn64tab), ("internal/strconv.uint64pow10", laid_internal_strconv_uint64pow10)], narrowed := true }
def RelationParentsUptoSaid : Prop := relationParentsUptoRow.holds Tryz.pinned (OpenSpec.upto relationParentsSpec)

/-- 'archivumlaw26.RelationEnds', WHERE WHAT IT READS IS OF BULK AT MOST 1048576: true; the input reads as it did. -/
def relationEndsUptoRow : OpenClaim := { program := "ytfghbendiofbeaagreatdoor", sum := "5273435fa81be2277c542567cfee9453b4bf04f1167f77677c6b5ac36bfdf3d3", func := "archivum/archivumlaw26.RelationEnds", spec := "relationEnds", inPlace := ["internal/bytealg.IndexByteString", "internal/bytealg.IndexString", "slices.overlaps[archivum/api.Relation]"], unfollowed := true, recurses := true, named := ["internal/bytealg.MaxLen", "internal/strconv.uint64pow10", "math/bits.deBruijn32tab", "math/bits.deBruijn64tab"], apart := false, laid := [("math/bits.deBruijn32tab", laid_math_bits_deBruijn32tab), ("math/bits.deBruijn64tab", laid_math_bits_deBruijn64tab), ("internal/strconv.uint64pow10", laid_internal_strconv_uint64pow10)], narrowed := true }
def RelationEndsUptoSaid : Prop := relationEndsUptoRow.holds Tryz.pinned (OpenSpec.upto relationEndsSpec)

/-- 'archivumlaw26.RelationBoth', WHERE WHAT IT READS IS OF BULK AT MOST 1048576: true; the input reads as it did. -/
def relationBothUptoRow : OpenClaim := { program := "ytfghbendiofbeaagreatdoor", sum := "5273435fa81be2277c542567cfee9453b4bf04f1167f77677c6b5ac36bfdf3d3", func := "archivum/archivumlaw26.RelationBoth", spec := "relationBoth", inPlace := ["internal/bytealg.IndexByteString", "internal/bytealg.IndexString", "slices.overlaps[archivum/api.Relation]"], unfollowed := true, recurses := true, named := ["internal/bytealg.MaxLen", "internal/strconv.uint64pow10", "math/bits.deBruijn32tab", "math/bits.deBruijn64tab"], apart := false, laid := [("math/bits.deBruijn32tab", laid_math_bits_deBruijn32tab), ("math/bits.deBruijn64tab", laid_math_bits_deBruijn64tab), ("internal/strconv.uint64pow10", laid_internal_strconv_uint64pow10)], narrowed := true }
def RelationBothUptoSaid : Prop := relationBothUptoRow.holds Tryz.pinned (OpenSpec.upto relationBothSpec)

/-- 'archivumlaw26.RelationAdds', WHERE WHAT IT READS IS OF BULK AT MOST 1048576: true; the input reads as it did. -/
def relationAddsUptoRow : OpenClaim := { program := "ytfghbendiofbeaagreatdoor", sum := "5273435fa81be2277c542567cfee9453b4bf04f1167f77677c6b5ac36bfdf3d3", func := "archivum/archivumlaw26.RelationAdds", spec := "relationAdds", inPlace := ["internal/bytealg.IndexByteString", "internal/bytealg.IndexString", "slices.overlaps[archivum/api.Relation]"], unfollowed := true, recurses := true, named := ["internal/bytealg.MaxLen", "internal/strconv.uint64pow10", "math/bits.deBruijn32tab", "math/bits.deBruijn64tab"], apart := false, laid := [("math/bits.deBruijn32tab", laid_math_bits_deBruijn32tab), ("math/bits.deBruijn64tab", laid_math_bits_deBruijn64tab), ("internal/strconv.uint64pow10", laid_internal_strconv_uint64pow10)], narrowed := true }
def RelationAddsUptoSaid : Prop := relationAddsUptoRow.holds Tryz.pinned (OpenSpec.upto relationAddsSpec)

end Rows
end Go.Proofs.YtfghbendiofbeaaGreatDoor
