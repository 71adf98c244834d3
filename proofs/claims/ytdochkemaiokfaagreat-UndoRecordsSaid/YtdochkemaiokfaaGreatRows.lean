/-
  No cell of these rows narrows 'for every input' (looked for: loops, veiled, ifaces, maps, wideKeys, modest, calm, conditions, laid).
  DERIVED. THE GIVEN ROWS OF THIS SEAT. 8 by the template 'for every input the law returns true; each argument reads behind the call as it read before'; 0 by the template 'total and deterministic' (their statements: YtdochkemaiokfaaGreatTotals.lean).
  GIVEN WITH THE SEED: the statements are not yours to turn. If you find one false, say at which input.
  Laid BY PROGRAM, IN A SANDBOX (cutbox-rows.mjs): the forced cells as the released guide's own fill.sh prints them over the translation bfce4e2ad960888d… (all of the seat's roots in one cut). By AI agents, Wed Nov 11 2026. No macro, syntax, notation, axiom, sorry.
-/
import Derived.Test.YtdochkemaiokfaaGreatChecked
import GoSem.Claim
import GoSem.ClaimJoined
import GoSem.ClaimMapViews
import Derived.JoinedTies
import Derived.KernelRfl
namespace Go.Proofs.YtdochkemaiokfaaGreat
/- THE CELL 'sum', in the pinned program and in every row, IS THE sha256 OF THE DUMP (.gsa) THAT YtdochkemaiokfaaGreatProg.lean LOADS. Nothing in Lean hashes anything: it is a label: what it is worth is what the hold of that sum in a sandbox is worth. -/
noncomputable def Tryz.pinned : Pinned := { name := "ytdochkemaiokfaagreat", sum := "bfce4e2ad960888dfa834f02a7db17d765b4b3437666eeeedd1a3bf0d1537d54", checked := Tryz.checked }
namespace Rows
def none {H : Type} : Left H := { results := [], args := [] }

/-- 'archivumlaw22.UndoAdmits': WHATEVER THE INPUT: true; the input reads as it did. -/
def undoAdmitsSpec : ChangeSpec := { name := "undoAdmits", fn := fun _ => fun
  | [d1, d2] => { results := [.lit (.bool true)], args := [d1, d2] }
  | _ => none }
def undoAdmitsRow : OpenClaim := { program := "ytdochkemaiokfaagreat", sum := "bfce4e2ad960888dfa834f02a7db17d765b4b3437666eeeedd1a3bf0d1537d54", func := "archivum/archivumlaw22.UndoAdmits", spec := "undoAdmits", inPlace := ["internal/bytealg.IndexByteString", "internal/bytealg.IndexString", "slices.overlaps[archivum/api.Came]", "slices.overlaps[archivum/api.Branch]", "slices.overlaps[int]", "internal/bytealg.abigen_runtime_cmpstring"], unfollowed := true, recurses := true, named := ["internal/bytealg.MaxLen"], apart := false }
def UndoAdmitsSaid : Prop := undoAdmitsRow.holds Tryz.pinned (OpenSpec.ofChange undoAdmitsSpec)

/-- ITS FALSE NEIGHBOUR: 'it returns false'. Refute it at one input. -/
def undoAdmitsWrong : ChangeSpec := { name := "undoAdmits", fn := fun _ => fun
  | [d1, d2] => { results := [.lit (.bool false)], args := [d1, d2] }
  | _ => none }
def UndoAdmitsWrongFalsely : Prop := undoAdmitsRow.holds Tryz.pinned (OpenSpec.ofChange undoAdmitsWrong)

/-- 'archivumlaw22.UndoTrees': WHATEVER THE INPUT: true; the input reads as it did. -/
def undoTreesSpec : ChangeSpec := { name := "undoTrees", fn := fun _ => fun
  | [d1, d2] => { results := [.lit (.bool true)], args := [d1, d2] }
  | _ => none }
def undoTreesRow : OpenClaim := { program := "ytdochkemaiokfaagreat", sum := "bfce4e2ad960888dfa834f02a7db17d765b4b3437666eeeedd1a3bf0d1537d54", func := "archivum/archivumlaw22.UndoTrees", spec := "undoTrees", inPlace := ["internal/bytealg.IndexByteString", "internal/bytealg.IndexString", "slices.overlaps[archivum/api.Came]", "slices.overlaps[archivum/api.Branch]", "slices.overlaps[int]", "internal/bytealg.abigen_runtime_cmpstring"], unfollowed := true, recurses := true, named := ["internal/bytealg.MaxLen"], apart := false }
def UndoTreesSaid : Prop := undoTreesRow.holds Tryz.pinned (OpenSpec.ofChange undoTreesSpec)

/-- ITS FALSE NEIGHBOUR: 'it returns false'. Refute it at one input. -/
def undoTreesWrong : ChangeSpec := { name := "undoTrees", fn := fun _ => fun
  | [d1, d2] => { results := [.lit (.bool false)], args := [d1, d2] }
  | _ => none }
def UndoTreesWrongFalsely : Prop := undoTreesRow.holds Tryz.pinned (OpenSpec.ofChange undoTreesWrong)

/-- 'archivumlaw22.UndoRecords': WHATEVER THE INPUT: true; the input reads as it did. -/
def undoRecordsSpec : ChangeSpec := { name := "undoRecords", fn := fun _ => fun
  | [d] => { results := [.lit (.bool true)], args := [d] }
  | _ => none }
def undoRecordsRow : OpenClaim := { program := "ytdochkemaiokfaagreat", sum := "bfce4e2ad960888dfa834f02a7db17d765b4b3437666eeeedd1a3bf0d1537d54", func := "archivum/archivumlaw22.UndoRecords", spec := "undoRecords", inPlace := ["internal/bytealg.IndexByteString", "internal/bytealg.IndexString", "slices.overlaps[archivum/api.Came]", "slices.overlaps[archivum/api.Branch]", "slices.overlaps[int]", "internal/bytealg.abigen_runtime_cmpstring"], unfollowed := true, recurses := true, named := ["internal/bytealg.MaxLen"], apart := false }
def UndoRecordsSaid : Prop := undoRecordsRow.holds Tryz.pinned (OpenSpec.ofChange undoRecordsSpec)

/-- ITS FALSE NEIGHBOUR: 'it returns false'. Refute it at one input. -/
def undoRecordsWrong : ChangeSpec := { name := "undoRecords", fn := fun _ => fun
  | [d] => { results := [.lit (.bool false)], args := [d] }
  | _ => none }
def UndoRecordsWrongFalsely : Prop := undoRecordsRow.holds Tryz.pinned (OpenSpec.ofChange undoRecordsWrong)

/-- 'archivumlaw22.UndoTwice': WHATEVER THE INPUT: true; the input reads as it did. -/
def undoTwiceSpec : ChangeSpec := { name := "undoTwice", fn := fun _ => fun
  | [d1, d2] => { results := [.lit (.bool true)], args := [d1, d2] }
  | _ => none }
def undoTwiceRow : OpenClaim := { program := "ytdochkemaiokfaagreat", sum := "bfce4e2ad960888dfa834f02a7db17d765b4b3437666eeeedd1a3bf0d1537d54", func := "archivum/archivumlaw22.UndoTwice", spec := "undoTwice", inPlace := ["internal/bytealg.IndexByteString", "internal/bytealg.IndexString", "slices.overlaps[archivum/api.Came]", "slices.overlaps[archivum/api.Branch]", "slices.overlaps[int]", "internal/bytealg.abigen_runtime_cmpstring"], unfollowed := true, recurses := true, named := ["internal/bytealg.MaxLen"], apart := false }
def UndoTwiceSaid : Prop := undoTwiceRow.holds Tryz.pinned (OpenSpec.ofChange undoTwiceSpec)

/-- ITS FALSE NEIGHBOUR: 'it returns false'. Refute it at one input. -/
def undoTwiceWrong : ChangeSpec := { name := "undoTwice", fn := fun _ => fun
  | [d1, d2] => { results := [.lit (.bool false)], args := [d1, d2] }
  | _ => none }
def UndoTwiceWrongFalsely : Prop := undoTwiceRow.holds Tryz.pinned (OpenSpec.ofChange undoTwiceWrong)

/-- 'archivumlaw22.UndoWithout': WHATEVER THE INPUT: true; the input reads as it did. -/
def undoWithoutSpec : ChangeSpec := { name := "undoWithout", fn := fun _ => fun
  | [d1, d2] => { results := [.lit (.bool true)], args := [d1, d2] }
  | _ => none }
def undoWithoutRow : OpenClaim := { program := "ytdochkemaiokfaagreat", sum := "bfce4e2ad960888dfa834f02a7db17d765b4b3437666eeeedd1a3bf0d1537d54", func := "archivum/archivumlaw22.UndoWithout", spec := "undoWithout", inPlace := ["internal/bytealg.IndexByteString", "internal/bytealg.IndexString", "slices.overlaps[archivum/api.Came]", "slices.overlaps[archivum/api.Branch]", "slices.overlaps[int]", "internal/bytealg.abigen_runtime_cmpstring"], unfollowed := true, recurses := true, named := ["internal/bytealg.MaxLen"], apart := false }
def UndoWithoutSaid : Prop := undoWithoutRow.holds Tryz.pinned (OpenSpec.ofChange undoWithoutSpec)

/-- ITS FALSE NEIGHBOUR: 'it returns false'. Refute it at one input. -/
def undoWithoutWrong : ChangeSpec := { name := "undoWithout", fn := fun _ => fun
  | [d1, d2] => { results := [.lit (.bool false)], args := [d1, d2] }
  | _ => none }
def UndoWithoutWrongFalsely : Prop := undoWithoutRow.holds Tryz.pinned (OpenSpec.ofChange undoWithoutWrong)

/-- 'archivumlaw22.UndoLast': WHATEVER THE INPUT: true; the input reads as it did. -/
def undoLastSpec : ChangeSpec := { name := "undoLast", fn := fun _ => fun
  | [d] => { results := [.lit (.bool true)], args := [d] }
  | _ => none }
def undoLastRow : OpenClaim := { program := "ytdochkemaiokfaagreat", sum := "bfce4e2ad960888dfa834f02a7db17d765b4b3437666eeeedd1a3bf0d1537d54", func := "archivum/archivumlaw22.UndoLast", spec := "undoLast", inPlace := ["internal/bytealg.IndexByteString", "internal/bytealg.IndexString", "slices.overlaps[archivum/api.Came]", "slices.overlaps[archivum/api.Branch]", "slices.overlaps[int]", "internal/bytealg.abigen_runtime_cmpstring"], unfollowed := true, recurses := true, named := ["internal/bytealg.MaxLen"], apart := false }
def UndoLastSaid : Prop := undoLastRow.holds Tryz.pinned (OpenSpec.ofChange undoLastSpec)

/-- ITS FALSE NEIGHBOUR: 'it returns false'. Refute it at one input. -/
def undoLastWrong : ChangeSpec := { name := "undoLast", fn := fun _ => fun
  | [d] => { results := [.lit (.bool false)], args := [d] }
  | _ => none }
def UndoLastWrongFalsely : Prop := undoLastRow.holds Tryz.pinned (OpenSpec.ofChange undoLastWrong)

/-- 'archivumlaw22.UndoMarks': WHATEVER THE INPUT: true; the input reads as it did. -/
def undoMarksSpec : ChangeSpec := { name := "undoMarks", fn := fun _ => fun
  | [d] => { results := [.lit (.bool true)], args := [d] }
  | _ => none }
def undoMarksRow : OpenClaim := { program := "ytdochkemaiokfaagreat", sum := "bfce4e2ad960888dfa834f02a7db17d765b4b3437666eeeedd1a3bf0d1537d54", func := "archivum/archivumlaw22.UndoMarks", spec := "undoMarks", inPlace := ["internal/bytealg.IndexByteString", "internal/bytealg.IndexString", "slices.overlaps[archivum/api.Came]", "slices.overlaps[archivum/api.Branch]", "slices.overlaps[int]", "internal/bytealg.abigen_runtime_cmpstring"], unfollowed := true, recurses := true, named := ["internal/bytealg.MaxLen"], apart := false }
def UndoMarksSaid : Prop := undoMarksRow.holds Tryz.pinned (OpenSpec.ofChange undoMarksSpec)

/-- ITS FALSE NEIGHBOUR: 'it returns false'. Refute it at one input. -/
def undoMarksWrong : ChangeSpec := { name := "undoMarks", fn := fun _ => fun
  | [d] => { results := [.lit (.bool false)], args := [d] }
  | _ => none }
def UndoMarksWrongFalsely : Prop := undoMarksRow.holds Tryz.pinned (OpenSpec.ofChange undoMarksWrong)

/-- 'archivumlaw22.UndoProvenance': WHATEVER THE INPUT: true; the input reads as it did. -/
def undoProvenanceSpec : ChangeSpec := { name := "undoProvenance", fn := fun _ => fun
  | [d1, d2] => { results := [.lit (.bool true)], args := [d1, d2] }
  | _ => none }
def undoProvenanceRow : OpenClaim := { program := "ytdochkemaiokfaagreat", sum := "bfce4e2ad960888dfa834f02a7db17d765b4b3437666eeeedd1a3bf0d1537d54", func := "archivum/archivumlaw22.UndoProvenance", spec := "undoProvenance", inPlace := ["internal/bytealg.IndexByteString", "internal/bytealg.IndexString", "slices.overlaps[archivum/api.Came]", "slices.overlaps[archivum/api.Branch]", "slices.overlaps[int]", "internal/bytealg.abigen_runtime_cmpstring"], unfollowed := true, recurses := true, named := ["internal/bytealg.MaxLen"], apart := false }
def UndoProvenanceSaid : Prop := undoProvenanceRow.holds Tryz.pinned (OpenSpec.ofChange undoProvenanceSpec)

/-- ITS FALSE NEIGHBOUR: 'it returns false'. Refute it at one input. -/
def undoProvenanceWrong : ChangeSpec := { name := "undoProvenance", fn := fun _ => fun
  | [d1, d2] => { results := [.lit (.bool false)], args := [d1, d2] }
  | _ => none }
def UndoProvenanceWrongFalsely : Prop := undoProvenanceRow.holds Tryz.pinned (OpenSpec.ofChange undoProvenanceWrong)

/- THE SECOND FORM. 'bulk': how many values and letters a reading holds, each counted each time it is reached (what is shared counts as often as it is met; a slice's spare places count too). A statement '..UptoSaid' is the law's where the arguments, and the package variables that the reading takes, are together of bulk at most 1048576: NARROWER than '..Said'. Prove '..Said' where nothing that the law and all that it calls make is longer than what came in: it says more and counts as full. Else prove '..UptoSaid'. A law counts once. -/
mutual
def uptoBulk {H : Type} : DataW H → Nat
  | .lit (.string bytes) => bytes.length + 1
  | .lit _ => 1
  | .nil => 1
  | .ptr d => uptoBulk d + 1
  | .slice elems spare => uptoBulkAll elems + uptoBulkAll spare + 1
  | .agg parts => uptoBulkAll parts + 1
  | .iface _ d => uptoBulk d + 1
  | .map entries => uptoBulkEntries entries + 1
  | .held _ => 1
def uptoBulkAll {H : Type} : List (DataW H) → Nat
  | [] => 0
  | d :: r => uptoBulk d + uptoBulkAll r
def uptoBulkEntries {H : Type} : List (Lit × DataW H) → Nat
  | [] => 0
  | x :: r => uptoBulkEntry x + uptoBulkEntries r
def uptoBulkEntry {H : Type} : Lit × DataW H → Nat
  | (.string bytes, d) => bytes.length + uptoBulk d + 1
  | (_, d) => uptoBulk d + 1
 end
def uptoSmall : (H : Type) → List (DataW H) → Bool := fun _ ds => decide (uptoBulkAll ds ≤ 1048576)
def OpenSpec.upto (s : _root_.Go.ChangeSpec) : _root_.Go.OpenSpec := { _root_.Go.OpenSpec.ofChange s with cond := some uptoSmall }

/-- 'archivumlaw22.UndoAdmits', WHERE WHAT IT READS IS OF BULK AT MOST 1048576: true; the input reads as it did. -/
def undoAdmitsUptoRow : OpenClaim := { program := "ytdochkemaiokfaagreat", sum := "bfce4e2ad960888dfa834f02a7db17d765b4b3437666eeeedd1a3bf0d1537d54", func := "archivum/archivumlaw22.UndoAdmits", spec := "undoAdmits", inPlace := ["internal/bytealg.IndexByteString", "internal/bytealg.IndexString", "slices.overlaps[archivum/api.Came]", "slices.overlaps[archivum/api.Branch]", "slices.overlaps[int]", "internal/bytealg.abigen_runtime_cmpstring"], unfollowed := true, recurses := true, named := ["internal/bytealg.MaxLen"], apart := false, narrowed := true }
def UndoAdmitsUptoSaid : Prop := undoAdmitsUptoRow.holds Tryz.pinned (OpenSpec.upto undoAdmitsSpec)

/-- 'archivumlaw22.UndoTrees', WHERE WHAT IT READS IS OF BULK AT MOST 1048576: true; the input reads as it did. -/
def undoTreesUptoRow : OpenClaim := { program := "ytdochkemaiokfaagreat", sum := "bfce4e2ad960888dfa834f02a7db17d765b4b3437666eeeedd1a3bf0d1537d54", func := "archivum/archivumlaw22.UndoTrees", spec := "undoTrees", inPlace := ["internal/bytealg.IndexByteString", "internal/bytealg.IndexString", "slices.overlaps[archivum/api.Came]", "slices.overlaps[archivum/api.Branch]", "slices.overlaps[int]", "internal/bytealg.abigen_runtime_cmpstring"], unfollowed := true, recurses := true, named := ["internal/bytealg.MaxLen"], apart := false, narrowed := true }
def UndoTreesUptoSaid : Prop := undoTreesUptoRow.holds Tryz.pinned (OpenSpec.upto undoTreesSpec)

/-- 'archivumlaw22.UndoRecords', WHERE WHAT IT READS IS OF BULK AT MOST 1048576: true; the input reads as it did. -/
def undoRecordsUptoRow : OpenClaim := { program := "ytdochkemaiokfaagreat", sum := "bfce4e2ad960888dfa834f02a7db17d765b4b3437666eeeedd1a3bf0d1537d54", func := "archivum/archivumlaw22.UndoRecords", spec := "undoRecords", inPlace := ["internal/bytealg.IndexByteString", "internal/bytealg.IndexString", "slices.overlaps[archivum/api.Came]", "slices.overlaps[archivum/api.Branch]", "slices.overlaps[int]", "internal/bytealg.abigen_runtime_cmpstring"], unfollowed := true, recurses := true, named := ["internal/bytealg.MaxLen"], apart := false, narrowed := true }
def UndoRecordsUptoSaid : Prop := undoRecordsUptoRow.holds Tryz.pinned (OpenSpec.upto undoRecordsSpec)

/-- 'archivumlaw22.UndoTwice', WHERE WHAT IT READS IS OF BULK AT MOST 1048576: true; the input reads as it did. -/
def undoTwiceUptoRow : OpenClaim := { program := "ytdochkemaiokfaagreat", sum := "bfce4e2ad960888dfa834f02a7db17d765b4b3437666eeeedd1a3bf0d1537d54", func := "archivum/archivumlaw22.UndoTwice", spec := "undoTwice", inPlace := ["internal/bytealg.IndexByteString", "internal/bytealg.IndexString", "slices.overlaps[archivum/api.Came]", "slices.overlaps[archivum/api.Branch]", "slices.overlaps[int]", "internal/bytealg.abigen_runtime_cmpstring"], unfollowed := true, recurses := true, named := ["internal/bytealg.MaxLen"], apart := false, narrowed := true }
def UndoTwiceUptoSaid : Prop := undoTwiceUptoRow.holds Tryz.pinned (OpenSpec.upto undoTwiceSpec)

/-- 'archivumlaw22.UndoWithout', WHERE WHAT IT READS IS OF BULK AT MOST 1048576: true; the input reads as it did. -/
def undoWithoutUptoRow : OpenClaim := { program := "ytdochkemaiokfaagreat", sum := "bfce4e2ad960888dfa834f02a7db17d765b4b3437666eeeedd1a3bf0d1537d54", func := "archivum/archivumlaw22.UndoWithout", spec := "undoWithout", inPlace := ["internal/bytealg.IndexByteString", "internal/bytealg.IndexString", "slices.overlaps[archivum/api.Came]", "slices.overlaps[archivum/api.Branch]", "slices.overlaps[int]", "internal/bytealg.abigen_runtime_cmpstring"], unfollowed := true, recurses := true, named := ["internal/bytealg.MaxLen"], apart := false, narrowed := true }
def UndoWithoutUptoSaid : Prop := undoWithoutUptoRow.holds Tryz.pinned (OpenSpec.upto undoWithoutSpec)

/-- 'archivumlaw22.UndoLast', WHERE WHAT IT READS IS OF BULK AT MOST 1048576: true; the input reads as it did. -/
def undoLastUptoRow : OpenClaim := { program := "ytdochkemaiokfaagreat", sum := "bfce4e2ad960888dfa834f02a7db17d765b4b3437666eeeedd1a3bf0d1537d54", func := "archivum/archivumlaw22.UndoLast", spec := "undoLast", inPlace := ["internal/bytealg.IndexByteString", "internal/bytealg.IndexString", "slices.overlaps[archivum/api.Came]", "slices.overlaps[archivum/api.Branch]", "slices.overlaps[int]", "internal/bytealg.abigen_runtime_cmpstring"], unfollowed := true, recurses := true, named := ["internal/bytealg.MaxLen"], apart := false, narrowed := true }
def UndoLastUptoSaid : Prop := undoLastUptoRow.holds Tryz.pinned (OpenSpec.upto undoLastSpec)

/-- 'archivumlaw22.UndoMarks', WHERE WHAT IT READS IS OF BULK AT MOST 1048576: true; the input reads as it did. -/
def undoMarksUptoRow : OpenClaim := { program := "ytdochkemaiokfaagreat", sum := "bfce4e2ad960888dfa834f02a7db17d765b4b3437666eeeedd1a3bf0d1537d54", func := "archivum/archivumlaw22.UndoMarks", spec := "undoMarks", inPlace := ["internal/bytealg.IndexByteString", "internal/bytealg.IndexString", "slices.overlaps[archivum/api.Came]", "slices.overlaps[archivum/api.Branch]", "slices.overlaps[int]", "internal/bytealg.abigen_runtime_cmpstring"], unfollowed := true, recurses := true, named := ["internal/bytealg.MaxLen"], apart := false, narrowed := true }
def UndoMarksUptoSaid : Prop := undoMarksUptoRow.holds Tryz.pinned (OpenSpec.upto undoMarksSpec)

/-- 'archivumlaw22.UndoProvenance', WHERE WHAT IT READS IS OF BULK AT MOST 1048576: true; the input reads as it did. -/
def undoProvenanceUptoRow : OpenClaim := { program := "ytdochkemaiokfaagreat", sum := "bfce4e2ad960888dfa834f02a7db17d765b4b3437666eeeedd1a3bf0d1537d54", func := "archivum/archivumlaw22.UndoProvenance", spec := "undoProvenance", inPlace := ["internal/bytealg.IndexByteString", "internal/bytealg.IndexString", "slices.overlaps[archivum/api.Came]", "slices.overlaps[archivum/api.Branch]", "slices.overlaps[int]", "internal/bytealg.abigen_runtime_cmpstring"], unfollowed := true, recurses := true, named := ["internal/bytealg.MaxLen"], apart := false, narrowed := true }
def UndoProvenanceUptoSaid : Prop := undoProvenanceUptoRow.holds Tryz.pinned (OpenSpec.upto undoProvenanceSpec)

end Rows
end Go.Proofs.YtdochkemaiokfaaGreat
