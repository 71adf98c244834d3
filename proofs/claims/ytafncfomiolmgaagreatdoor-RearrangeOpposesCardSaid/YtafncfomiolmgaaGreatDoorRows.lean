/-
  NARROWER THAN 'FOR EVERY INPUT', by the rows' own cells (each row's printed sentence says how): RearrangeForms: laid · RearrangeApplies: laid · RearrangeOpposes: laid · RearrangeRight: laid · RearrangeBack: laid · RearrangeLocal: laid · RearrangeTogether: laid · RearrangeBuilds: laid.
  DERIVED. THE GIVEN ROWS OF THIS SEAT. 8 by the template 'for every input the law returns true; each argument reads behind the call as it read before'; 0 by the template 'total and deterministic' (their statements: YtafncfomiolmgaaGreatDoorTotals.lean).
  GIVEN WITH THE SEED: the statements are not yours to turn. If you find one false, say at which input.
  Laid BY PROGRAM, IN A SANDBOX (cutbox-rows.mjs): the forced cells as the released guide's own fill.sh prints them over the translation 09797c5371d8f594… (all of the seat's roots in one cut). By AI agents, Wed Nov 11 2026. No macro, syntax, notation, axiom, sorry.
-/
import Derived.Test.YtafncfomiolmgaaGreatDoorChecked
import GoSem.Claim
import GoSem.ClaimJoined
import GoSem.ClaimMapViews
import Derived.JoinedTies
import Derived.KernelRfl
namespace Go.Proofs.YtafncfomiolmgaaGreatDoor
/- THE CELL 'sum', in the pinned program and in every row, IS THE sha256 OF THE DUMP (.gsa) THAT YtafncfomiolmgaaGreatDoorProg.lean LOADS. Nothing in Lean hashes anything: it is a label: what it is worth is what the hold of that sum in a sandbox is worth. -/
noncomputable def Tryz.pinned : Pinned := { name := "ytafncfomiolmgaagreatdoor", sum := "09797c5371d8f5949ad763fa6651d8a963d6f946b75b2a5dc74325c03b2958b6", checked := Tryz.checked }
namespace Rows
def none {H : Type} : Left H := { results := [], args := [] }

/- WHAT THE LISTED PACKAGE-LEVEL VARIABLES READ AS WHEN THE CALL BEGINS. Each datum BY PROGRAM (the guide's laid-datum.mjs) off the statement by which the dump's own 'gosem.cut.vars' lays the variable. In a bare row this is a premise. The card (YtafncfomiolmgaaGreatDoorCards.lean) ties it to the program's text. -/
def laid_math_bits_deBruijn32tab {H : Type} : DataW H := .agg [.lit (.int .u8 0), .lit (.int .u8 1), .lit (.int .u8 28), .lit (.int .u8 2), .lit (.int .u8 29), .lit (.int .u8 14), .lit (.int .u8 24), .lit (.int .u8 3), .lit (.int .u8 30), .lit (.int .u8 22), .lit (.int .u8 20), .lit (.int .u8 15), .lit (.int .u8 25), .lit (.int .u8 17), .lit (.int .u8 4), .lit (.int .u8 8), .lit (.int .u8 31), .lit (.int .u8 27), .lit (.int .u8 13), .lit (.int .u8 23), .lit (.int .u8 21), .lit (.int .u8 19), .lit (.int .u8 16), .lit (.int .u8 7), .lit (.int .u8 26), .lit (.int .u8 12), .lit (.int .u8 18), .lit (.int .u8 6), .lit (.int .u8 11), .lit (.int .u8 5), .lit (.int .u8 10), .lit (.int .u8 9)]
def laid_math_bits_deBruijn64tab {H : Type} : DataW H := .agg [.lit (.int .u8 0), .lit (.int .u8 1), .lit (.int .u8 56), .lit (.int .u8 2), .lit (.int .u8 57), .lit (.int .u8 49), .lit (.int .u8 28), .lit (.int .u8 3), .lit (.int .u8 61), .lit (.int .u8 58), .lit (.int .u8 42), .lit (.int .u8 50), .lit (.int .u8 38), .lit (.int .u8 29), .lit (.int .u8 17), .lit (.int .u8 4), .lit (.int .u8 62), .lit (.int .u8 47), .lit (.int .u8 59), .lit (.int .u8 36), .lit (.int .u8 45), .lit (.int .u8 43), .lit (.int .u8 51), .lit (.int .u8 22), .lit (.int .u8 53), .lit (.int .u8 39), .lit (.int .u8 33), .lit (.int .u8 30), .lit (.int .u8 24), .lit (.int .u8 18), .lit (.int .u8 12), .lit (.int .u8 5), .lit (.int .u8 63), .lit (.int .u8 55), .lit (.int .u8 48), .lit (.int .u8 27), .lit (.int .u8 60), .lit (.int .u8 41), .lit (.int .u8 37), .lit (.int .u8 16), .lit (.int .u8 46), .lit (.int .u8 35), .lit (.int .u8 44), .lit (.int .u8 21), .lit (.int .u8 52), .lit (.int .u8 32), .lit (.int .u8 23), .lit (.int .u8 11), .lit (.int .u8 54), .lit (.int .u8 26), .lit (.int .u8 40), .lit (.int .u8 15), .lit (.int .u8 34), .lit (.int .u8 20), .lit (.int .u8 31), .lit (.int .u8 10), .lit (.int .u8 25), .lit (.int .u8 14), .lit (.int .u8 19), .lit (.int .u8 9), .lit (.int .u8 13), .lit (.int .u8 8), .lit (.int .u8 7), .lit (.int .u8 6)]
def laid_internal_strconv_uint64pow10 {H : Type} : DataW H := .agg [.lit (.int .u64 1), .lit (.int .u64 10), .lit (.int .u64 100), .lit (.int .u64 1000), .lit (.int .u64 10000), .lit (.int .u64 100000), .lit (.int .u64 1000000), .lit (.int .u64 10000000), .lit (.int .u64 100000000), .lit (.int .u64 1000000000), .lit (.int .u64 10000000000), .lit (.int .u64 100000000000), .lit (.int .u64 1000000000000), .lit (.int .u64 10000000000000), .lit (.int .u64 100000000000000), .lit (.int .u64 1000000000000000), .lit (.int .u64 10000000000000000), .lit (.int .u64 100000000000000000), .lit (.int .u64 1000000000000000000), .lit (.int .u64 10000000000000000000)]

/-- 'archivumlaw21.RearrangeForms': WHATEVER THE INPUT: true; the input reads as it did. -/
def rearrangeFormsSpec : ChangeSpec := { name := "rearrangeForms", fn := fun _ => fun
  | [d] => { results := [.lit (.bool true)], args := [d] }
  | _ => none }
def rearrangeFormsRow : OpenClaim := { program := "ytafncfomiolmgaagreatdoor", sum := "09797c5371d8f5949ad763fa6651d8a963d6f946b75b2a5dc74325c03b2958b6", func := "archivum/archivumlaw21.RearrangeForms", spec := "rearrangeForms", inPlace := ["slices.overlaps[archivum/api.Branch]", "slices.overlaps[int]", "internal/bytealg.IndexByteString", "internal/bytealg.IndexString"], unfollowed := true, recurses := true, named := ["internal/bytealg.MaxLen", "internal/strconv.uint64pow10", "math/bits.deBruijn32tab", "math/bits.deBruijn64tab"], plainKeys := false, apart := false, laid := [("math/bits.deBruijn32tab", laid_math_bits_deBruijn32tab), ("math/bits.deBruijn64tab", laid_math_bits_deBruijn64tab), ("internal/strconv.uint64pow10", laid_internal_strconv_uint64pow10)] }
def RearrangeFormsSaid : Prop := rearrangeFormsRow.holds Tryz.pinned (OpenSpec.ofChange rearrangeFormsSpec)

/-- ITS FALSE NEIGHBOUR: 'it returns false'. Refute it at one input. -/
def rearrangeFormsWrong : ChangeSpec := { name := "rearrangeForms", fn := fun _ => fun
  | [d] => { results := [.lit (.bool false)], args := [d] }
  | _ => none }
def RearrangeFormsWrongFalsely : Prop := rearrangeFormsRow.holds Tryz.pinned (OpenSpec.ofChange rearrangeFormsWrong)

/-- 'archivumlaw21.RearrangeApplies': WHATEVER THE INPUT: true; the input reads as it did. -/
def rearrangeAppliesSpec : ChangeSpec := { name := "rearrangeApplies", fn := fun _ => fun
  | [d1, d2] => { results := [.lit (.bool true)], args := [d1, d2] }
  | _ => none }
def rearrangeAppliesRow : OpenClaim := { program := "ytafncfomiolmgaagreatdoor", sum := "09797c5371d8f5949ad763fa6651d8a963d6f946b75b2a5dc74325c03b2958b6", func := "archivum/archivumlaw21.RearrangeApplies", spec := "rearrangeApplies", inPlace := ["slices.overlaps[archivum/api.Branch]", "slices.overlaps[int]", "internal/bytealg.IndexByteString", "internal/bytealg.IndexString"], unfollowed := true, recurses := true, named := ["internal/bytealg.MaxLen", "internal/strconv.uint64pow10", "math/bits.deBruijn32tab", "math/bits.deBruijn64tab"], plainKeys := false, apart := false, laid := [("math/bits.deBruijn32tab", laid_math_bits_deBruijn32tab), ("math/bits.deBruijn64tab", laid_math_bits_deBruijn64tab), ("internal/strconv.uint64pow10", laid_internal_strconv_uint64pow10)] }
def RearrangeAppliesSaid : Prop := rearrangeAppliesRow.holds Tryz.pinned (OpenSpec.ofChange rearrangeAppliesSpec)

/-- ITS FALSE NEIGHBOUR: 'it returns false'. Refute it at one input. -/
def rearrangeAppliesWrong : ChangeSpec := { name := "rearrangeApplies", fn := fun _ => fun
  | [d1, d2] => { results := [.lit (.bool false)], args := [d1, d2] }
  | _ => none }
def RearrangeAppliesWrongFalsely : Prop := rearrangeAppliesRow.holds Tryz.pinned (OpenSpec.ofChange rearrangeAppliesWrong)

/-- 'archivumlaw21.RearrangeOpposes': WHATEVER THE INPUT: true; the input reads as it did. -/
def rearrangeOpposesSpec : ChangeSpec := { name := "rearrangeOpposes", fn := fun _ => fun
  | [d1, d2, d3] => { results := [.lit (.bool true)], args := [d1, d2, d3] }
  | _ => none }
def rearrangeOpposesRow : OpenClaim := { program := "ytafncfomiolmgaagreatdoor", sum := "09797c5371d8f5949ad763fa6651d8a963d6f946b75b2a5dc74325c03b2958b6", func := "archivum/archivumlaw21.RearrangeOpposes", spec := "rearrangeOpposes", inPlace := ["slices.overlaps[archivum/api.Branch]", "slices.overlaps[int]", "internal/bytealg.IndexByteString", "internal/bytealg.IndexString"], unfollowed := true, recurses := true, named := ["internal/bytealg.MaxLen", "internal/strconv.uint64pow10", "math/bits.deBruijn32tab", "math/bits.deBruijn64tab"], plainKeys := false, apart := false, laid := [("math/bits.deBruijn32tab", laid_math_bits_deBruijn32tab), ("math/bits.deBruijn64tab", laid_math_bits_deBruijn64tab), ("internal/strconv.uint64pow10", laid_internal_strconv_uint64pow10)] }
def RearrangeOpposesSaid : Prop := rearrangeOpposesRow.holds Tryz.pinned (OpenSpec.ofChange rearrangeOpposesSpec)

/-- ITS FALSE NEIGHBOUR: 'it returns false'. Refute it at one input. -/
def rearrangeOpposesWrong : ChangeSpec := { name := "rearrangeOpposes", fn := fun _ => fun
  | [d1, d2, d3] => { results := [.lit (.bool false)], args := [d1, d2, d3] }
  | _ => none }
def RearrangeOpposesWrongFalsely : Prop := rearrangeOpposesRow.holds Tryz.pinned (OpenSpec.ofChange rearrangeOpposesWrong)

/-- 'archivumlaw21.RearrangeRight': WHATEVER THE INPUT: true; the input reads as it did. -/
def rearrangeRightSpec : ChangeSpec := { name := "rearrangeRight", fn := fun _ => fun
  | [d1, d2] => { results := [.lit (.bool true)], args := [d1, d2] }
  | _ => none }
def rearrangeRightRow : OpenClaim := { program := "ytafncfomiolmgaagreatdoor", sum := "09797c5371d8f5949ad763fa6651d8a963d6f946b75b2a5dc74325c03b2958b6", func := "archivum/archivumlaw21.RearrangeRight", spec := "rearrangeRight", inPlace := ["slices.overlaps[archivum/api.Branch]", "slices.overlaps[int]", "internal/bytealg.IndexByteString", "internal/bytealg.IndexString"], unfollowed := true, recurses := true, named := ["internal/bytealg.MaxLen", "internal/strconv.uint64pow10", "math/bits.deBruijn32tab", "math/bits.deBruijn64tab"], plainKeys := false, apart := false, laid := [("math/bits.deBruijn32tab", laid_math_bits_deBruijn32tab), ("math/bits.deBruijn64tab", laid_math_bits_deBruijn64tab), ("internal/strconv.uint64pow10", laid_internal_strconv_uint64pow10)] }
def RearrangeRightSaid : Prop := rearrangeRightRow.holds Tryz.pinned (OpenSpec.ofChange rearrangeRightSpec)

/-- ITS FALSE NEIGHBOUR: 'it returns false'. Refute it at one input. -/
def rearrangeRightWrong : ChangeSpec := { name := "rearrangeRight", fn := fun _ => fun
  | [d1, d2] => { results := [.lit (.bool false)], args := [d1, d2] }
  | _ => none }
def RearrangeRightWrongFalsely : Prop := rearrangeRightRow.holds Tryz.pinned (OpenSpec.ofChange rearrangeRightWrong)

/-- 'archivumlaw21.RearrangeBack': WHATEVER THE INPUT: true; the input reads as it did. -/
def rearrangeBackSpec : ChangeSpec := { name := "rearrangeBack", fn := fun _ => fun
  | [d1, d2] => { results := [.lit (.bool true)], args := [d1, d2] }
  | _ => none }
def rearrangeBackRow : OpenClaim := { program := "ytafncfomiolmgaagreatdoor", sum := "09797c5371d8f5949ad763fa6651d8a963d6f946b75b2a5dc74325c03b2958b6", func := "archivum/archivumlaw21.RearrangeBack", spec := "rearrangeBack", inPlace := ["slices.overlaps[archivum/api.Branch]", "slices.overlaps[int]", "internal/bytealg.IndexByteString", "internal/bytealg.IndexString"], unfollowed := true, recurses := true, named := ["internal/bytealg.MaxLen", "internal/strconv.uint64pow10", "math/bits.deBruijn32tab", "math/bits.deBruijn64tab"], plainKeys := false, apart := false, laid := [("math/bits.deBruijn32tab", laid_math_bits_deBruijn32tab), ("math/bits.deBruijn64tab", laid_math_bits_deBruijn64tab), ("internal/strconv.uint64pow10", laid_internal_strconv_uint64pow10)] }
def RearrangeBackSaid : Prop := rearrangeBackRow.holds Tryz.pinned (OpenSpec.ofChange rearrangeBackSpec)

/-- ITS FALSE NEIGHBOUR: 'it returns false'. Refute it at one input. -/
def rearrangeBackWrong : ChangeSpec := { name := "rearrangeBack", fn := fun _ => fun
  | [d1, d2] => { results := [.lit (.bool false)], args := [d1, d2] }
  | _ => none }
def RearrangeBackWrongFalsely : Prop := rearrangeBackRow.holds Tryz.pinned (OpenSpec.ofChange rearrangeBackWrong)

/-- 'archivumlaw21.RearrangeLocal': WHATEVER THE INPUT: true; the input reads as it did. -/
def rearrangeLocalSpec : ChangeSpec := { name := "rearrangeLocal", fn := fun _ => fun
  | [d1, d2] => { results := [.lit (.bool true)], args := [d1, d2] }
  | _ => none }
def rearrangeLocalRow : OpenClaim := { program := "ytafncfomiolmgaagreatdoor", sum := "09797c5371d8f5949ad763fa6651d8a963d6f946b75b2a5dc74325c03b2958b6", func := "archivum/archivumlaw21.RearrangeLocal", spec := "rearrangeLocal", inPlace := ["slices.overlaps[archivum/api.Branch]", "slices.overlaps[int]", "internal/bytealg.IndexByteString", "internal/bytealg.IndexString"], unfollowed := true, recurses := true, named := ["internal/bytealg.MaxLen", "internal/strconv.uint64pow10", "math/bits.deBruijn32tab", "math/bits.deBruijn64tab"], plainKeys := false, apart := false, laid := [("math/bits.deBruijn32tab", laid_math_bits_deBruijn32tab), ("math/bits.deBruijn64tab", laid_math_bits_deBruijn64tab), ("internal/strconv.uint64pow10", laid_internal_strconv_uint64pow10)] }
def RearrangeLocalSaid : Prop := rearrangeLocalRow.holds Tryz.pinned (OpenSpec.ofChange rearrangeLocalSpec)

/-- ITS FALSE NEIGHBOUR: 'it returns false'. Refute it at one input. -/
def rearrangeLocalWrong : ChangeSpec := { name := "rearrangeLocal", fn := fun _ => fun
  | [d1, d2] => { results := [.lit (.bool false)], args := [d1, d2] }
  | _ => none }
def RearrangeLocalWrongFalsely : Prop := rearrangeLocalRow.holds Tryz.pinned (OpenSpec.ofChange rearrangeLocalWrong)

/-- 'archivumlaw21.RearrangeTogether': WHATEVER THE INPUT: true; the input reads as it did. -/
def rearrangeTogetherSpec : ChangeSpec := { name := "rearrangeTogether", fn := fun _ => fun
  | [d1, d2] => { results := [.lit (.bool true)], args := [d1, d2] }
  | _ => none }
def rearrangeTogetherRow : OpenClaim := { program := "ytafncfomiolmgaagreatdoor", sum := "09797c5371d8f5949ad763fa6651d8a963d6f946b75b2a5dc74325c03b2958b6", func := "archivum/archivumlaw21.RearrangeTogether", spec := "rearrangeTogether", inPlace := ["slices.overlaps[archivum/api.Branch]", "slices.overlaps[int]", "internal/bytealg.IndexByteString", "internal/bytealg.IndexString"], unfollowed := true, recurses := true, named := ["internal/bytealg.MaxLen", "internal/strconv.uint64pow10", "math/bits.deBruijn32tab", "math/bits.deBruijn64tab"], plainKeys := false, apart := false, laid := [("math/bits.deBruijn32tab", laid_math_bits_deBruijn32tab), ("math/bits.deBruijn64tab", laid_math_bits_deBruijn64tab), ("internal/strconv.uint64pow10", laid_internal_strconv_uint64pow10)] }
def RearrangeTogetherSaid : Prop := rearrangeTogetherRow.holds Tryz.pinned (OpenSpec.ofChange rearrangeTogetherSpec)

/-- ITS FALSE NEIGHBOUR: 'it returns false'. Refute it at one input. -/
def rearrangeTogetherWrong : ChangeSpec := { name := "rearrangeTogether", fn := fun _ => fun
  | [d1, d2] => { results := [.lit (.bool false)], args := [d1, d2] }
  | _ => none }
def RearrangeTogetherWrongFalsely : Prop := rearrangeTogetherRow.holds Tryz.pinned (OpenSpec.ofChange rearrangeTogetherWrong)

/-- 'archivumlaw21.RearrangeBuilds': WHATEVER THE INPUT: true; the input reads as it did. -/
def rearrangeBuildsSpec : ChangeSpec := { name := "rearrangeBuilds", fn := fun _ => fun
  | [d] => { results := [.lit (.bool true)], args := [d] }
  | _ => none }
def rearrangeBuildsRow : OpenClaim := { program := "ytafncfomiolmgaagreatdoor", sum := "09797c5371d8f5949ad763fa6651d8a963d6f946b75b2a5dc74325c03b2958b6", func := "archivum/archivumlaw21.RearrangeBuilds", spec := "rearrangeBuilds", inPlace := ["slices.overlaps[archivum/api.Branch]", "slices.overlaps[int]", "internal/bytealg.IndexByteString", "internal/bytealg.IndexString"], unfollowed := true, recurses := true, named := ["internal/bytealg.MaxLen", "internal/strconv.uint64pow10", "math/bits.deBruijn32tab", "math/bits.deBruijn64tab"], plainKeys := false, apart := false, laid := [("math/bits.deBruijn32tab", laid_math_bits_deBruijn32tab), ("math/bits.deBruijn64tab", laid_math_bits_deBruijn64tab), ("internal/strconv.uint64pow10", laid_internal_strconv_uint64pow10)] }
def RearrangeBuildsSaid : Prop := rearrangeBuildsRow.holds Tryz.pinned (OpenSpec.ofChange rearrangeBuildsSpec)

/-- ITS FALSE NEIGHBOUR: 'it returns false'. Refute it at one input. -/
def rearrangeBuildsWrong : ChangeSpec := { name := "rearrangeBuilds", fn := fun _ => fun
  | [d] => { results := [.lit (.bool false)], args := [d] }
  | _ => none }
def RearrangeBuildsWrongFalsely : Prop := rearrangeBuildsRow.holds Tryz.pinned (OpenSpec.ofChange rearrangeBuildsWrong)

/- THE SECOND FORM. 'bulk': how many values and letters a reading holds, each counted each time it is reached (what is shared counts as often as it is met; a slice's spare places count too). A statement '..UptoSaid' is the law's where the arguments, and the package variables that the reading takes, are together of bulk at most 1048576: NARROWER than '..Said'. Prove '..Said' where nothing that the law and all that it calls make is longer than what came in: it says more and counts as full. Else prove '..UptoSaid'. A law counts once. -/
mutual
def uptoBulk {H : Type} : DataW H → Nat
  | .lit (.string bytes) => bytes.length + 1
  | .lit _ => 1
  | .nil => 1
  | .ptr d => uptoBulk d + 1
  | .slice elems spare => uptoBulkAll elems + uptoBulkAll spare + 1
  | .agg parts => uptoBulkAll parts + 1
  | .iface _ d => uptoBulk d + 1
  | .map entries => uptoBulkEntries entries + 1
  | .held _ => 1
def uptoBulkAll {H : Type} : List (DataW H) → Nat
  | [] => 0
  | d :: r => uptoBulk d + uptoBulkAll r
def uptoBulkEntries {H : Type} : List (Lit × DataW H) → Nat
  | [] => 0
  | x :: r => uptoBulkEntry x + uptoBulkEntries r
def uptoBulkEntry {H : Type} : Lit × DataW H → Nat
  | (.string bytes, d) => bytes.length + uptoBulk d + 1
  | (_, d) => uptoBulk d + 1
 end
def uptoSmall : (H : Type) → List (DataW H) → Bool := fun _ ds => decide (uptoBulkAll ds ≤ 1048576)
def OpenSpec.upto (s : _root_.Go.ChangeSpec) : _root_.Go.OpenSpec := { _root_.Go.OpenSpec.ofChange s with cond := some uptoSmall }

/-- 'archivumlaw21.RearrangeForms', WHERE WHAT IT READS IS OF BULK AT MOST 1048576: true; the input reads as it did. -/
def rearrangeFormsUptoRow : OpenClaim := { program := "ytafncfomiolmgaagreatdoor", sum := "09797c5371d8f5949ad763fa6651d8a963d6f946b75b2a5dc74325c03b2958b6", func := "archivum/archivumlaw21.RearrangeForms", spec := "rearrangeForms", inPlace := ["slices.overlaps[archivum/api.Branch]", "slices.overlaps[int]", "internal/bytealg.IndexByteString", "internal/bytealg.IndexString"], unfollowed := true, recurses := true, named := ["internal/bytealg.MaxLen", "internal/strconv.uint64pow10", "math/bits.deBruijn32tab", "math/bits.deBruijn64tab"], plainKeys := false, apart := false, laid := [("math/bits.deBruijn32tab", laid_math_bits_deBruijn32tab), ("math/bits.deBruijn64tab", laid_math_bits_deBruijn64tab), ("internal/strconv.uint64pow10", laid_internal_strconv_uint64pow10)], narrowed := true }
def RearrangeFormsUptoSaid : Prop := rearrangeFormsUptoRow.holds Tryz.pinned (OpenSpec.upto rearrangeFormsSpec)

/-- 'archivumlaw21.RearrangeApplies', WHERE WHAT IT READS IS OF BULK AT MOST 1048576: true; the input reads as it did. -/
def rearrangeAppliesUptoRow : OpenClaim := { program := "ytafncfomiolmgaagreatdoor", sum := "09797c5371d8f5949ad763fa6651d8a963d6f946b75b2a5dc74325c03b2958b6", func := "archivum/archivumlaw21.RearrangeApplies", spec := "rearrangeApplies", inPlace := ["slices.overlaps[archivum/api.Branch]", "slices.overlaps[int]", "internal/bytealg.IndexByteString", "internal/bytealg.IndexString"], unfollowed := true, recurses := true, named := ["internal/bytealg.MaxLen", "internal/strconv.uint64pow10", "math/bits.deBruijn32tab", "math/bits.deBruijn64tab"], plainKeys := false, apart := false, laid := [("math/bits.deBruijn32tab", laid_math_bits_deBruijn32tab), ("math/bits.deBruijn64tab", laid_math_bits_deBruijn64tab), ("internal/strconv.uint64pow10", laid_internal_strconv_uint64pow10)], narrowed := true }
def RearrangeAppliesUptoSaid : Prop := rearrangeAppliesUptoRow.holds Tryz.pinned (OpenSpec.upto rearrangeAppliesSpec)

/-- 'archivumlaw21.RearrangeOpposes', WHERE WHAT IT READS IS OF BULK AT MOST 1048576: true; the input reads as it did. -/
def rearrangeOpposesUptoRow : OpenClaim := { program := "ytafncfomiolmgaagreatdoor", sum := "09797c5371d8f5949ad763fa6651d8a963d6f946b75b2a5dc74325c03b2958b6", func := "archivum/archivumlaw21.RearrangeOpposes", spec := "rearrangeOpposes", inPlace := ["slices.overlaps[archivum/api.Branch]", "slices.overlaps[int]", "internal/bytealg.IndexByteString", "internal/bytealg.IndexString"], unfollowed := true, recurses := true, named := ["internal/bytealg.MaxLen", "internal/strconv.uint64pow10", "math/bits.deBruijn32tab", "math/bits.deBruijn64tab"], plainKeys := false, apart := false, laid := [("math/bits.deBruijn32tab", laid_math_bits_deBruijn32tab), ("math/bits.deBruijn64tab", laid_math_bits_deBruijn64tab), ("internal/strconv.uint64pow10", laid_internal_strconv_uint64pow10)], narrowed := true }
def RearrangeOpposesUptoSaid : Prop := rearrangeOpposesUptoRow.holds Tryz.pinned (OpenSpec.upto rearrangeOpposesSpec)

/-- 'archivumlaw21.RearrangeRight', WHERE WHAT IT READS IS OF BULK AT MOST 1048576: true; the input reads as it did. -/
def rearrangeRightUptoRow : OpenClaim := { program := "ytafncfomiolmgaagreatdoor", sum := "09797c5371d8f5949ad763fa6651d8a963d6f946b75b2a5dc74325c03b2958b6", func := "archivum/archivumlaw21.RearrangeRight", spec := "rearrangeRight", inPlace := ["slices.overlaps[archivum/api.Branch]", "slices.overlaps[int]", "internal/bytealg.IndexByteString", "internal/bytealg.IndexString"], unfollowed := true, recurses := true, named := ["internal/bytealg.MaxLen", "internal/strconv.uint64pow10", "math/bits.deBruijn32tab", "math/bits.deBruijn64tab"], plainKeys := false, apart := false, laid := [("math/bits.deBruijn32tab", laid_math_bits_deBruijn32tab), ("math/bits.deBruijn64tab", laid_math_bits_deBruijn64tab), ("internal/strconv.uint64pow10", laid_internal_strconv_uint64pow10)], narrowed := true }
def RearrangeRightUptoSaid : Prop := rearrangeRightUptoRow.holds Tryz.pinned (OpenSpec.upto rearrangeRightSpec)

/-- 'archivumlaw21.RearrangeBack', WHERE WHAT IT READS IS OF BULK AT MOST 1048576: true; the input reads as it did. -/
def rearrangeBackUptoRow : OpenClaim := { program := "ytafncfomiolmgaagreatdoor", sum := "09797c5371d8f5949ad763fa6651d8a963d6f946b75b2a5dc74325c03b2958b6", func := "archivum/archivumlaw21.RearrangeBack", spec := "rearrangeBack", inPlace := ["slices.overlaps[archivum/api.Branch]", "slices.overlaps[int]", "internal/bytealg.IndexByteString", "internal/bytealg.IndexString"], unfollowed := true, recurses := true, named := ["internal/bytealg.MaxLen", "internal/strconv.uint64pow10", "math/bits.deBruijn32tab", "math/bits.deBruijn64tab"], plainKeys := false, apart := false, laid := [("math/bits.deBruijn32tab", laid_math_bits_deBruijn32tab), ("math/bits.deBruijn64tab", laid_math_bits_deBruijn64tab), ("internal/strconv.uint64pow10", laid_internal_strconv_uint64pow10)], narrowed := true }
def RearrangeBackUptoSaid : Prop := rearrangeBackUptoRow.holds Tryz.pinned (OpenSpec.upto rearrangeBackSpec)

/-- 'archivumlaw21.RearrangeLocal', WHERE WHAT IT READS IS OF BULK AT MOST 1048576: true; the input reads as it did. -/
def rearrangeLocalUptoRow : OpenClaim := { program := "ytafncfomiolmgaagreatdoor", sum := "09797c5371d8f5949ad763fa6651d8a963d6f946b75b2a5dc74325c03b2958b6", func := "archivum/archivumlaw21.RearrangeLocal", spec := "rearrangeLocal", inPlace := ["slices.overlaps[archivum/api.Branch]", "slices.overlaps[int]", "internal/bytealg.IndexByteString", "internal/bytealg.IndexString"], unfollowed := true, recurses := true, named := ["internal/bytealg.MaxLen", "internal/strconv.uint64pow10", "math/bits.deBruijn32tab", "math/bits.deBruijn64tab"], plainKeys := false, apart := false, laid := [("math/bits.deBruijn32tab", laid_math_bits_deBruijn32tab), ("math/bits.deBruijn64tab", laid_math_bits_deBruijn64tab), ("internal/strconv.uint64pow10", laid_internal_strconv_uint64pow10)], narrowed := true }
def RearrangeLocalUptoSaid : Prop := rearrangeLocalUptoRow.holds Tryz.pinned (OpenSpec.upto rearrangeLocalSpec)

/-- 'archivumlaw21.RearrangeTogether', WHERE WHAT IT READS IS OF BULK AT MOST 1048576: true; the input reads as it did. -/
def rearrangeTogetherUptoRow : OpenClaim := { program := "ytafncfomiolmgaagreatdoor", sum := "09797c5371d8f5949ad763fa6651d8a963d6f946b75b2a5dc74325c03b2958b6", func := "archivum/archivumlaw21.RearrangeTogether", spec := "rearrangeTogether", inPlace := ["slices.overlaps[archivum/api.Branch]", "slices.overlaps[int]", "internal/bytealg.IndexByteString", "internal/bytealg.IndexString"], unfollowed := true, recurses := true, named := ["internal/bytealg.MaxLen", "internal/strconv.uint64pow10", "math/bits.deBruijn32tab", "math/bits.deBruijn64tab"], plainKeys := false, apart := false, laid := [("math/bits.deBruijn32tab", laid_math_bits_deBruijn32tab), ("math/bits.deBruijn64tab", laid_math_bits_deBruijn64tab), ("internal/strconv.uint64pow10", laid_internal_strconv_uint64pow10)], narrowed := true }
def RearrangeTogetherUptoSaid : Prop := rearrangeTogetherUptoRow.holds Tryz.pinned (OpenSpec.upto rearrangeTogetherSpec)

/-- 'archivumlaw21.RearrangeBuilds', WHERE WHAT IT READS IS OF BULK AT MOST 1048576: true; the input reads as it did. -/
def rearrangeBuildsUptoRow : OpenClaim := { program := "ytafncfomiolmgaagreatdoor", sum := "09797c5371d8f5949ad763fa6651d8a963d6f946b75b2a5dc74325c03b2958b6", func := "archivum/archivumlaw21.RearrangeBuilds", spec := "rearrangeBuilds", inPlace := ["slices.overlaps[archivum/api.Branch]", "slices.overlaps[int]", "internal/bytealg.IndexByteString", "internal/bytealg.IndexString"], unfollowed := true, recurses := true, named := ["internal/bytealg.MaxLen", "internal/strconv.uint64pow10", "math/bits.deBruijn32tab", "math/bits.deBruijn64tab"], plainKeys := false, apart := false, laid := [("math/bits.deBruijn32tab", laid_math_bits_deBruijn32tab), ("math/bits.deBruijn64tab", laid_math_bits_deBruijn64tab), ("internal/strconv.uint64pow10", laid_internal_strconv_uint64pow10)], narrowed := true }
def RearrangeBuildsUptoSaid : Prop := rearrangeBuildsUptoRow.holds Tryz.pinned (OpenSpec.upto rearrangeBuildsSpec)

end Rows
end Go.Proofs.YtafncfomiolmgaaGreatDoor
