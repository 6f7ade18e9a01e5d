/-
  NARROWER THAN 'FOR EVERY INPUT', by the rows' own cells (each row's printed sentence says how): EngineClean: laid · EngineLoops: laid · EngineLocals: laid · EngineCells: laid · EngineBranches: laid · EngineDeep: laid · EngineCatches: laid.
  DERIVED. THE GIVEN ROWS OF THIS SEAT. 7 by the template 'for every input the law returns true; each argument reads behind the call as it read before'; 0 by the template 'total and deterministic' (their statements: YtdokeddjcpnmiaaGreatDoorTotals.lean).
  GIVEN WITH THE SEED: the statements are not yours to turn. If you find one false, say at which input.
  Laid BY PROGRAM, IN A SANDBOX (cutbox-rows.mjs): the forced cells as the released guide's own fill.sh prints them over the translation 9144476293117a52… (all of the seat's roots in one cut). By AI agents, Wed Nov 11 2026. No macro, syntax, notation, axiom, sorry.
-/
import Derived.Test.YtdokeddjcpnmiaaGreatDoorChecked
import GoSem.PinnedTables
import GoSem.Claim
import GoSem.ClaimJoined
import GoSem.ClaimMapViews
import Derived.JoinedTies
import Derived.KernelRfl
namespace Go.Proofs.YtdokeddjcpnmiaaGreatDoor
/- THE CELL 'sum', in the pinned program and in every row, IS THE sha256 OF THE DUMP (.gsa) THAT YtdokeddjcpnmiaaGreatDoorProg.lean LOADS. Nothing in Lean hashes anything: it is a label: what it is worth is what the hold of that sum in a sandbox is worth. -/
noncomputable def Tryz.pinned : Pinned := { name := "ytdokeddjcpnmiaagreatdoor", sum := "9144476293117a52baeed6ece3942c2d9642d9ebd8282e4ce8d01b67f5acafc5", checked := Tryz.checked }
namespace Rows
def none {H : Type} : Left H := { results := [], args := [] }

/- WHAT THE LISTED PACKAGE-LEVEL VARIABLES READ AS WHEN THE CALL BEGINS. Each datum BY PROGRAM (the guide's laid-datum.mjs) off the statement by which the dump's own 'gosem.cut.vars' lays the variable. In a bare row this is a premise. The card (YtdokeddjcpnmiaaGreatDoorCards.lean) ties it to the program's text. -/
def laid_math_bits_deBruijn32tab {H : Type} : DataW H := .agg [.lit (.int .u8 0), .lit (.int .u8 1), .lit (.int .u8 28), .lit (.int .u8 2), .lit (.int .u8 29), .lit (.int .u8 14), .lit (.int .u8 24), .lit (.int .u8 3), .lit (.int .u8 30), .lit (.int .u8 22), .lit (.int .u8 20), .lit (.int .u8 15), .lit (.int .u8 25), .lit (.int .u8 17), .lit (.int .u8 4), .lit (.int .u8 8), .lit (.int .u8 31), .lit (.int .u8 27), .lit (.int .u8 13), .lit (.int .u8 23), .lit (.int .u8 21), .lit (.int .u8 19), .lit (.int .u8 16), .lit (.int .u8 7), .lit (.int .u8 26), .lit (.int .u8 12), .lit (.int .u8 18), .lit (.int .u8 6), .lit (.int .u8 11), .lit (.int .u8 5), .lit (.int .u8 10), .lit (.int .u8 9)]
def laid_math_bits_deBruijn64tab {H : Type} : DataW H := .agg [.lit (.int .u8 0), .lit (.int .u8 1), .lit (.int .u8 56), .lit (.int .u8 2), .lit (.int .u8 57), .lit (.int .u8 49), .lit (.int .u8 28), .lit (.int .u8 3), .lit (.int .u8 61), .lit (.int .u8 58), .lit (.int .u8 42), .lit (.int .u8 50), .lit (.int .u8 38), .lit (.int .u8 29), .lit (.int .u8 17), .lit (.int .u8 4), .lit (.int .u8 62), .lit (.int .u8 47), .lit (.int .u8 59), .lit (.int .u8 36), .lit (.int .u8 45), .lit (.int .u8 43), .lit (.int .u8 51), .lit (.int .u8 22), .lit (.int .u8 53), .lit (.int .u8 39), .lit (.int .u8 33), .lit (.int .u8 30), .lit (.int .u8 24), .lit (.int .u8 18), .lit (.int .u8 12), .lit (.int .u8 5), .lit (.int .u8 63), .lit (.int .u8 55), .lit (.int .u8 48), .lit (.int .u8 27), .lit (.int .u8 60), .lit (.int .u8 41), .lit (.int .u8 37), .lit (.int .u8 16), .lit (.int .u8 46), .lit (.int .u8 35), .lit (.int .u8 44), .lit (.int .u8 21), .lit (.int .u8 52), .lit (.int .u8 32), .lit (.int .u8 23), .lit (.int .u8 11), .lit (.int .u8 54), .lit (.int .u8 26), .lit (.int .u8 40), .lit (.int .u8 15), .lit (.int .u8 34), .lit (.int .u8 20), .lit (.int .u8 31), .lit (.int .u8 10), .lit (.int .u8 25), .lit (.int .u8 14), .lit (.int .u8 19), .lit (.int .u8 9), .lit (.int .u8 13), .lit (.int .u8 8), .lit (.int .u8 7), .lit (.int .u8 6)]
def laid_internal_strconv_uint64pow10 {H : Type} : DataW H := .agg [.lit (.int .u64 1), .lit (.int .u64 10), .lit (.int .u64 100), .lit (.int .u64 1000), .lit (.int .u64 10000), .lit (.int .u64 100000), .lit (.int .u64 1000000), .lit (.int .u64 10000000), .lit (.int .u64 100000000), .lit (.int .u64 1000000000), .lit (.int .u64 10000000000), .lit (.int .u64 100000000000), .lit (.int .u64 1000000000000), .lit (.int .u64 10000000000000), .lit (.int .u64 100000000000000), .lit (.int .u64 1000000000000000), .lit (.int .u64 10000000000000000), .lit (.int .u64 100000000000000000), .lit (.int .u64 1000000000000000000), .lit (.int .u64 10000000000000000000)]
def laid_unicode_utf8_acceptRanges {H : Type} : DataW H := .agg [.agg [.lit (.int .u8 128), .lit (.int .u8 191)], .agg [.lit (.int .u8 160), .lit (.int .u8 191)], .agg [.lit (.int .u8 128), .lit (.int .u8 159)], .agg [.lit (.int .u8 144), .lit (.int .u8 191)], .agg [.lit (.int .u8 128), .lit (.int .u8 143)], .agg [.lit (.int .u8 0), .lit (.int .u8 0)], .agg [.lit (.int .u8 0), .lit (.int .u8 0)], .agg [.lit (.int .u8 0), .lit (.int .u8 0)], .agg [.lit (.int .u8 0), .lit (.int .u8 0)], .agg [.lit (.int .u8 0), .lit (.int .u8 0)], .agg [.lit (.int .u8 0), .lit (.int .u8 0)], .agg [.lit (.int .u8 0), .lit (.int .u8 0)], .agg [.lit (.int .u8 0), .lit (.int .u8 0)], .agg [.lit (.int .u8 0), .lit (.int .u8 0)], .agg [.lit (.int .u8 0), .lit (.int .u8 0)], .agg [.lit (.int .u8 0), .lit (.int .u8 0)]]
/-- One of Go's own tables, pinned by name: the form's constant. -/
def laid_unicode_utf8_first : DataW Unit := Go.Pinned.utf8First

/-- 'rhytonlaw15.EngineClean': WHATEVER THE INPUT: true; the input reads as it did. -/
def engineCleanSpec : ChangeSpec := { name := "engineClean", fn := fun _ => fun
  | [d1, d2] => { results := [.lit (.bool true)], args := [d1, d2] }
  | _ => none }
def engineCleanRow : OpenClaim := { program := "ytdokeddjcpnmiaagreatdoor", sum := "9144476293117a52baeed6ece3942c2d9642d9ebd8282e4ce8d01b67f5acafc5", func := "rhyton/rhytonlaw15.EngineClean", spec := "engineClean", inPlace := ["internal/bytealg.CountString", "internal/bytealg.IndexByteString", "internal/bytealg.IndexString", "math.Float64frombits", "math.Float64bits", "math/bits.Sub64", "math/bits.Add64", "math.archFloor", "math.archTrunc", "internal/abi.NoEscape", "internal/bytealg.MakeNoZero"], unfollowed := true, recurses := true, named := ["unicode/utf8.first", "unicode/utf8.acceptRanges", "internal/bytealg.MaxLen", "math/bits.divideError", "math/bits.overflowError", "math/bits.deBruijn64tab", "internal/strconv.uint64pow10", "math/bits.deBruijn32tab"], apart := false, laid := [("math/bits.deBruijn32tab", laid_math_bits_deBruijn32tab), ("math/bits.deBruijn64tab", laid_math_bits_deBruijn64tab), ("internal/strconv.uint64pow10", laid_internal_strconv_uint64pow10), ("unicode/utf8.acceptRanges", laid_unicode_utf8_acceptRanges), ("unicode/utf8.first", laid_unicode_utf8_first)] }
def EngineCleanSaid : Prop := engineCleanRow.holds Tryz.pinned (OpenSpec.ofChange engineCleanSpec)

/-- ITS FALSE NEIGHBOUR: 'it returns false'. Refute it at one input. -/
def engineCleanWrong : ChangeSpec := { name := "engineClean", fn := fun _ => fun
  | [d1, d2] => { results := [.lit (.bool false)], args := [d1, d2] }
  | _ => none }
def EngineCleanWrongFalsely : Prop := engineCleanRow.holds Tryz.pinned (OpenSpec.ofChange engineCleanWrong)

/-- 'rhytonlaw15.EngineLoops': WHATEVER THE INPUT: true; the input reads as it did. -/
def engineLoopsSpec : ChangeSpec := { name := "engineLoops", fn := fun _ => fun
  | [d1, d2, d3, d4, d5] => { results := [.lit (.bool true)], args := [d1, d2, d3, d4, d5] }
  | _ => none }
def engineLoopsRow : OpenClaim := { program := "ytdokeddjcpnmiaagreatdoor", sum := "9144476293117a52baeed6ece3942c2d9642d9ebd8282e4ce8d01b67f5acafc5", func := "rhyton/rhytonlaw15.EngineLoops", spec := "engineLoops", inPlace := ["internal/bytealg.CountString", "internal/bytealg.IndexByteString", "internal/bytealg.IndexString", "math.Float64frombits", "math.Float64bits", "math/bits.Sub64", "math/bits.Add64", "math.archFloor", "math.archTrunc", "internal/abi.NoEscape", "internal/bytealg.MakeNoZero"], unfollowed := true, recurses := true, named := ["unicode/utf8.first", "unicode/utf8.acceptRanges", "internal/bytealg.MaxLen", "math/bits.divideError", "math/bits.overflowError", "math/bits.deBruijn64tab", "internal/strconv.uint64pow10", "math/bits.deBruijn32tab"], apart := false, laid := [("math/bits.deBruijn32tab", laid_math_bits_deBruijn32tab), ("math/bits.deBruijn64tab", laid_math_bits_deBruijn64tab), ("internal/strconv.uint64pow10", laid_internal_strconv_uint64pow10), ("unicode/utf8.acceptRanges", laid_unicode_utf8_acceptRanges), ("unicode/utf8.first", laid_unicode_utf8_first)] }
def EngineLoopsSaid : Prop := engineLoopsRow.holds Tryz.pinned (OpenSpec.ofChange engineLoopsSpec)

/-- ITS FALSE NEIGHBOUR: 'it returns false'. Refute it at one input. -/
def engineLoopsWrong : ChangeSpec := { name := "engineLoops", fn := fun _ => fun
  | [d1, d2, d3, d4, d5] => { results := [.lit (.bool false)], args := [d1, d2, d3, d4, d5] }
  | _ => none }
def EngineLoopsWrongFalsely : Prop := engineLoopsRow.holds Tryz.pinned (OpenSpec.ofChange engineLoopsWrong)

/-- 'rhytonlaw15.EngineLocals': WHATEVER THE INPUT: true; the input reads as it did. -/
def engineLocalsSpec : ChangeSpec := { name := "engineLocals", fn := fun _ => fun
  | [d1, d2, d3] => { results := [.lit (.bool true)], args := [d1, d2, d3] }
  | _ => none }
def engineLocalsRow : OpenClaim := { program := "ytdokeddjcpnmiaagreatdoor", sum := "9144476293117a52baeed6ece3942c2d9642d9ebd8282e4ce8d01b67f5acafc5", func := "rhyton/rhytonlaw15.EngineLocals", spec := "engineLocals", inPlace := ["internal/bytealg.CountString", "internal/bytealg.IndexByteString", "internal/bytealg.IndexString", "math.Float64frombits", "math.Float64bits", "math/bits.Sub64", "math/bits.Add64", "math.archFloor", "math.archTrunc", "internal/abi.NoEscape", "internal/bytealg.MakeNoZero"], unfollowed := true, recurses := true, named := ["unicode/utf8.first", "unicode/utf8.acceptRanges", "internal/bytealg.MaxLen", "math/bits.divideError", "math/bits.overflowError", "math/bits.deBruijn64tab", "internal/strconv.uint64pow10", "math/bits.deBruijn32tab"], apart := false, laid := [("math/bits.deBruijn32tab", laid_math_bits_deBruijn32tab), ("math/bits.deBruijn64tab", laid_math_bits_deBruijn64tab), ("internal/strconv.uint64pow10", laid_internal_strconv_uint64pow10), ("unicode/utf8.acceptRanges", laid_unicode_utf8_acceptRanges), ("unicode/utf8.first", laid_unicode_utf8_first)] }
def EngineLocalsSaid : Prop := engineLocalsRow.holds Tryz.pinned (OpenSpec.ofChange engineLocalsSpec)

/-- ITS FALSE NEIGHBOUR: 'it returns false'. Refute it at one input. -/
def engineLocalsWrong : ChangeSpec := { name := "engineLocals", fn := fun _ => fun
  | [d1, d2, d3] => { results := [.lit (.bool false)], args := [d1, d2, d3] }
  | _ => none }
def EngineLocalsWrongFalsely : Prop := engineLocalsRow.holds Tryz.pinned (OpenSpec.ofChange engineLocalsWrong)

/-- 'rhytonlaw15.EngineCells': WHATEVER THE INPUT: true; the input reads as it did. -/
def engineCellsSpec : ChangeSpec := { name := "engineCells", fn := fun _ => fun
  | [d] => { results := [.lit (.bool true)], args := [d] }
  | _ => none }
def engineCellsRow : OpenClaim := { program := "ytdokeddjcpnmiaagreatdoor", sum := "9144476293117a52baeed6ece3942c2d9642d9ebd8282e4ce8d01b67f5acafc5", func := "rhyton/rhytonlaw15.EngineCells", spec := "engineCells", inPlace := ["internal/bytealg.CountString", "internal/bytealg.IndexByteString", "internal/bytealg.IndexString", "math.Float64frombits", "math.Float64bits", "math/bits.Sub64", "math/bits.Add64", "math.archFloor", "math.archTrunc", "internal/abi.NoEscape", "internal/bytealg.MakeNoZero"], unfollowed := true, recurses := true, named := ["unicode/utf8.first", "unicode/utf8.acceptRanges", "internal/bytealg.MaxLen", "math/bits.divideError", "math/bits.overflowError", "math/bits.deBruijn64tab", "internal/strconv.uint64pow10", "math/bits.deBruijn32tab"], apart := false, laid := [("math/bits.deBruijn32tab", laid_math_bits_deBruijn32tab), ("math/bits.deBruijn64tab", laid_math_bits_deBruijn64tab), ("internal/strconv.uint64pow10", laid_internal_strconv_uint64pow10), ("unicode/utf8.acceptRanges", laid_unicode_utf8_acceptRanges), ("unicode/utf8.first", laid_unicode_utf8_first)] }
def EngineCellsSaid : Prop := engineCellsRow.holds Tryz.pinned (OpenSpec.ofChange engineCellsSpec)

/-- ITS FALSE NEIGHBOUR: 'it returns false'. Refute it at one input. -/
def engineCellsWrong : ChangeSpec := { name := "engineCells", fn := fun _ => fun
  | [d] => { results := [.lit (.bool false)], args := [d] }
  | _ => none }
def EngineCellsWrongFalsely : Prop := engineCellsRow.holds Tryz.pinned (OpenSpec.ofChange engineCellsWrong)

/-- 'rhytonlaw15.EngineBranches': WHATEVER THE INPUT: true; the input reads as it did. -/
def engineBranchesSpec : ChangeSpec := { name := "engineBranches", fn := fun _ => fun
  | [d] => { results := [.lit (.bool true)], args := [d] }
  | _ => none }
def engineBranchesRow : OpenClaim := { program := "ytdokeddjcpnmiaagreatdoor", sum := "9144476293117a52baeed6ece3942c2d9642d9ebd8282e4ce8d01b67f5acafc5", func := "rhyton/rhytonlaw15.EngineBranches", spec := "engineBranches", inPlace := ["internal/bytealg.CountString", "internal/bytealg.IndexByteString", "internal/bytealg.IndexString", "math.Float64frombits", "math.Float64bits", "math/bits.Sub64", "math/bits.Add64", "math.archFloor", "math.archTrunc", "internal/abi.NoEscape", "internal/bytealg.MakeNoZero"], unfollowed := true, recurses := true, named := ["unicode/utf8.first", "unicode/utf8.acceptRanges", "internal/bytealg.MaxLen", "math/bits.divideError", "math/bits.overflowError", "math/bits.deBruijn64tab", "internal/strconv.uint64pow10", "math/bits.deBruijn32tab"], apart := false, laid := [("math/bits.deBruijn32tab", laid_math_bits_deBruijn32tab), ("math/bits.deBruijn64tab", laid_math_bits_deBruijn64tab), ("internal/strconv.uint64pow10", laid_internal_strconv_uint64pow10), ("unicode/utf8.acceptRanges", laid_unicode_utf8_acceptRanges), ("unicode/utf8.first", laid_unicode_utf8_first)] }
def EngineBranchesSaid : Prop := engineBranchesRow.holds Tryz.pinned (OpenSpec.ofChange engineBranchesSpec)

/-- ITS FALSE NEIGHBOUR: 'it returns false'. Refute it at one input. -/
def engineBranchesWrong : ChangeSpec := { name := "engineBranches", fn := fun _ => fun
  | [d] => { results := [.lit (.bool false)], args := [d] }
  | _ => none }
def EngineBranchesWrongFalsely : Prop := engineBranchesRow.holds Tryz.pinned (OpenSpec.ofChange engineBranchesWrong)

/-- 'rhytonlaw15.EngineDeep': WHATEVER THE INPUT: true; the input reads as it did. -/
def engineDeepSpec : ChangeSpec := { name := "engineDeep", fn := fun _ => fun
  | [d] => { results := [.lit (.bool true)], args := [d] }
  | _ => none }
def engineDeepRow : OpenClaim := { program := "ytdokeddjcpnmiaagreatdoor", sum := "9144476293117a52baeed6ece3942c2d9642d9ebd8282e4ce8d01b67f5acafc5", func := "rhyton/rhytonlaw15.EngineDeep", spec := "engineDeep", inPlace := ["internal/bytealg.CountString", "internal/bytealg.IndexByteString", "internal/bytealg.IndexString", "math.Float64frombits", "math.Float64bits", "math/bits.Sub64", "math/bits.Add64", "math.archFloor", "math.archTrunc", "internal/abi.NoEscape", "internal/bytealg.MakeNoZero"], unfollowed := true, recurses := true, named := ["unicode/utf8.first", "unicode/utf8.acceptRanges", "internal/bytealg.MaxLen", "math/bits.divideError", "math/bits.overflowError", "math/bits.deBruijn64tab", "internal/strconv.uint64pow10", "math/bits.deBruijn32tab"], apart := false, laid := [("math/bits.deBruijn32tab", laid_math_bits_deBruijn32tab), ("math/bits.deBruijn64tab", laid_math_bits_deBruijn64tab), ("internal/strconv.uint64pow10", laid_internal_strconv_uint64pow10), ("unicode/utf8.acceptRanges", laid_unicode_utf8_acceptRanges), ("unicode/utf8.first", laid_unicode_utf8_first)] }
def EngineDeepSaid : Prop := engineDeepRow.holds Tryz.pinned (OpenSpec.ofChange engineDeepSpec)

/-- ITS FALSE NEIGHBOUR: 'it returns false'. Refute it at one input. -/
def engineDeepWrong : ChangeSpec := { name := "engineDeep", fn := fun _ => fun
  | [d] => { results := [.lit (.bool false)], args := [d] }
  | _ => none }
def EngineDeepWrongFalsely : Prop := engineDeepRow.holds Tryz.pinned (OpenSpec.ofChange engineDeepWrong)

/-- 'rhytonlaw15.EngineCatches': WHATEVER THE INPUT: true; the input reads as it did. -/
def engineCatchesSpec : ChangeSpec := { name := "engineCatches", fn := fun _ => fun
  | [d1, d2, d3, d4, d5] => { results := [.lit (.bool true)], args := [d1, d2, d3, d4, d5] }
  | _ => none }
def engineCatchesRow : OpenClaim := { program := "ytdokeddjcpnmiaagreatdoor", sum := "9144476293117a52baeed6ece3942c2d9642d9ebd8282e4ce8d01b67f5acafc5", func := "rhyton/rhytonlaw15.EngineCatches", spec := "engineCatches", inPlace := ["internal/bytealg.CountString", "internal/bytealg.IndexByteString", "internal/bytealg.IndexString", "math.Float64frombits", "math.Float64bits", "math/bits.Sub64", "math/bits.Add64", "math.archFloor", "math.archTrunc", "internal/abi.NoEscape", "internal/bytealg.MakeNoZero"], unfollowed := true, recurses := true, named := ["unicode/utf8.first", "unicode/utf8.acceptRanges", "internal/bytealg.MaxLen", "math/bits.divideError", "math/bits.overflowError", "math/bits.deBruijn64tab", "internal/strconv.uint64pow10", "math/bits.deBruijn32tab"], apart := false, laid := [("math/bits.deBruijn32tab", laid_math_bits_deBruijn32tab), ("math/bits.deBruijn64tab", laid_math_bits_deBruijn64tab), ("internal/strconv.uint64pow10", laid_internal_strconv_uint64pow10), ("unicode/utf8.acceptRanges", laid_unicode_utf8_acceptRanges), ("unicode/utf8.first", laid_unicode_utf8_first)] }
def EngineCatchesSaid : Prop := engineCatchesRow.holds Tryz.pinned (OpenSpec.ofChange engineCatchesSpec)

/-- ITS FALSE NEIGHBOUR: 'it returns false'. Refute it at one input. -/
def engineCatchesWrong : ChangeSpec := { name := "engineCatches", fn := fun _ => fun
  | [d1, d2, d3, d4, d5] => { results := [.lit (.bool false)], args := [d1, d2, d3, d4, d5] }
  | _ => none }
def EngineCatchesWrongFalsely : Prop := engineCatchesRow.holds Tryz.pinned (OpenSpec.ofChange engineCatchesWrong)

/- THE SECOND FORM. 'bulk': how many values and letters a reading holds, each counted each time it is reached (what is shared counts as often as it is met; a slice's spare places count too). A statement '..UptoSaid' is the law's where the arguments, and the package variables that the reading takes, are together of bulk at most 1048576: NARROWER than '..Said'. Prove '..Said' where nothing that the law and all that it calls make is longer than what came in: it says more and counts as full. Else prove '..UptoSaid'. A law counts once. -/
mutual
def uptoBulk {H : Type} : DataW H → Nat
  | .lit (.string bytes) => bytes.length + 1
  | .lit _ => 1
  | .nil => 1
  | .ptr d => uptoBulk d + 1
  | .slice elems spare => uptoBulkAll elems + uptoBulkAll spare + 1
  | .agg parts => uptoBulkAll parts + 1
  | .iface _ d => uptoBulk d + 1
  | .map entries => uptoBulkEntries entries + 1
  | .held _ => 1
def uptoBulkAll {H : Type} : List (DataW H) → Nat
  | [] => 0
  | d :: r => uptoBulk d + uptoBulkAll r
def uptoBulkEntries {H : Type} : List (Lit × DataW H) → Nat
  | [] => 0
  | x :: r => uptoBulkEntry x + uptoBulkEntries r
def uptoBulkEntry {H : Type} : Lit × DataW H → Nat
  | (.string bytes, d) => bytes.length + uptoBulk d + 1
  | (_, d) => uptoBulk d + 1
 end
def uptoSmall : (H : Type) → List (DataW H) → Bool := fun _ ds => decide (uptoBulkAll ds ≤ 1048576)
def OpenSpec.upto (s : _root_.Go.ChangeSpec) : _root_.Go.OpenSpec := { _root_.Go.OpenSpec.ofChange s with cond := some uptoSmall }

/-- 'rhytonlaw15.EngineClean', WHERE WHAT IT READS IS OF BULK AT MOST 1048576: true; the input reads as it did. -/
def engineCleanUptoRow : OpenClaim := { program := "ytdokeddjcpnmiaagreatdoor", sum := "9144476293117a52baeed6ece3942c2d9642d9ebd8282e4ce8d01b67f5acafc5", func := "rhyton/rhytonlaw15.EngineClean", spec := "engineClean", inPlace := ["internal/bytealg.CountString", "internal/bytealg.IndexByteString", "internal/bytealg.IndexString", "math.Float64frombits", "math.Float64bits", "math/bits.Sub64", "math/bits.Add64", "math.archFloor", "math.archTrunc", "internal/abi.NoEscape", "internal/bytealg.MakeNoZero"], unfollowed := true, recurses := true, named := ["unicode/utf8.first", "unicode/utf8.acceptRanges", "internal/bytealg.MaxLen", "math/bits.divideError", "math/bits.overflowError", "math/bits.deBruijn64tab", "internal/strconv.uint64pow10", "math/bits.deBruijn32tab"], apart := false, laid := [("math/bits.deBruijn32tab", laid_math_bits_deBruijn32tab), ("math/bits.deBruijn64tab", laid_math_bits_deBruijn64tab), ("internal/strconv.uint64pow10", laid_internal_strconv_uint64pow10), ("unicode/utf8.acceptRanges", laid_unicode_utf8_acceptRanges), ("unicode/utf8.first", laid_unicode_utf8_first)], narrowed := true }
def EngineCleanUptoSaid : Prop := engineCleanUptoRow.holds Tryz.pinned (OpenSpec.upto engineCleanSpec)

/-- 'rhytonlaw15.EngineLoops', WHERE WHAT IT READS IS OF BULK AT MOST 1048576: true; the input reads as it did. -/
def engineLoopsUptoRow : OpenClaim := { program := "ytdokeddjcpnmiaagreatdoor", sum := "9144476293117a52baeed6ece3942c2d9642d9ebd8282e4ce8d01b67f5acafc5", func := "rhyton/rhytonlaw15.EngineLoops", spec := "engineLoops", inPlace := ["internal/bytealg.CountString", "internal/bytealg.IndexByteString", "internal/bytealg.IndexString", "math.Float64frombits", "math.Float64bits", "math/bits.Sub64", "math/bits.Add64", "math.archFloor", "math.archTrunc", "internal/abi.NoEscape", "internal/bytealg.MakeNoZero"], unfollowed := true, recurses := true, named := ["unicode/utf8.first", "unicode/utf8.acceptRanges", "internal/bytealg.MaxLen", "math/bits.divideError", "math/bits.overflowError", "math/bits.deBruijn64tab", "internal/strconv.uint64pow10", "math/bits.deBruijn32tab"], apart := false, laid := [("math/bits.deBruijn32tab", laid_math_bits_deBruijn32tab), ("math/bits.deBruijn64tab", laid_math_bits_deBruijn64tab), ("internal/strconv.uint64pow10", laid_internal_strconv_uint64pow10), ("unicode/utf8.acceptRanges", laid_unicode_utf8_acceptRanges), ("unicode/utf8.first", laid_unicode_utf8_first)], narrowed := true }
def EngineLoopsUptoSaid : Prop := engineLoopsUptoRow.holds Tryz.pinned (OpenSpec.upto engineLoopsSpec)

/-- 'rhytonlaw15.EngineLocals', WHERE WHAT IT READS IS OF BULK AT MOST 1048576: true; the input reads as it did. -/
def engineLocalsUptoRow : OpenClaim := { program := "ytdokeddjcpnmiaagreatdoor", sum := "9144476293117a52baeed6ece3942c2d9642d9ebd8282e4ce8d01b67f5acafc5", func := "rhyton/rhytonlaw15.EngineLocals", spec := "engineLocals", inPlace := ["internal/bytealg.CountString", "internal/bytealg.IndexByteString", "internal/bytealg.IndexString", "math.Float64frombits", "math.Float64bits", "math/bits.Sub64", "math/bits.Add64", "math.archFloor", "math.archTrunc", "internal/abi.NoEscape", "internal/bytealg.MakeNoZero"], unfollowed := true, recurses := true, named := ["unicode/utf8.first", "unicode/utf8.acceptRanges", "internal/bytealg.MaxLen", "math/bits.divideError", "math/bits.overflowError", "math/bits.deBruijn64tab", "internal/strconv.uint64pow10", "math/bits.deBruijn32tab"], apart := false, laid := [("math/bits.deBruijn32tab", laid_math_bits_deBruijn32tab), ("math/bits.deBruijn64tab", laid_math_bits_deBruijn64tab), ("internal/strconv.uint64pow10", laid_internal_strconv_uint64pow10), ("unicode/utf8.acceptRanges", laid_unicode_utf8_acceptRanges), ("unicode/utf8.first", laid_unicode_utf8_first)], narrowed := true }
def EngineLocalsUptoSaid : Prop := engineLocalsUptoRow.holds Tryz.pinned (OpenSpec.upto engineLocalsSpec)

/-- 'rhytonlaw15.EngineCells', WHERE WHAT IT READS IS OF BULK AT MOST 1048576: true; the input reads as it did. -/
def engineCellsUptoRow : OpenClaim := { program := "ytdokeddjcpnmiaagreatdoor", sum := "9144476293117a52baeed6ece3942c2d9642d9ebd8282e4ce8d01b67f5acafc5", func := "rhyton/rhytonlaw15.EngineCells", spec := "engineCells", inPlace := ["internal/bytealg.CountString", "internal/bytealg.IndexByteString", "internal/bytealg.IndexString", "math.Float64frombits", "math.Float64bits", "math/bits.Sub64", "math/bits.Add64", "math.archFloor", "math.archTrunc", "internal/abi.NoEscape", "internal/bytealg.MakeNoZero"], unfollowed := true, recurses := true, named := ["unicode/utf8.first", "unicode/utf8.acceptRanges", "internal/bytealg.MaxLen", "math/bits.divideError", "math/bits.overflowError", "math/bits.deBruijn64tab", "internal/strconv.uint64pow10", "math/bits.deBruijn32tab"], apart := false, laid := [("math/bits.deBruijn32tab", laid_math_bits_deBruijn32tab), ("math/bits.deBruijn64tab", laid_math_bits_deBruijn64tab), ("internal/strconv.uint64pow10", laid_internal_strconv_uint64pow10), ("unicode/utf8.acceptRanges", laid_unicode_utf8_acceptRanges), ("unicode/utf8.first", laid_unicode_utf8_first)], narrowed := true }
def EngineCellsUptoSaid : Prop := engineCellsUptoRow.holds Tryz.pinned (OpenSpec.upto engineCellsSpec)

/-- 'rhytonlaw15.EngineBranches', WHERE WHAT IT READS IS OF BULK AT MOST 1048576: true; the input reads as it did. -/
def engineBranchesUptoRow : OpenClaim := { program := "ytdokeddjcpnmiaagreatdoor", sum := "9144476293117a52baeed6ece3942c2d9642d9ebd8282e4ce8d01b67f5acafc5", func := "rhyton/rhytonlaw15.EngineBranches", spec := "engineBranches", inPlace := ["internal/bytealg.CountString", "internal/bytealg.IndexByteString", "internal/bytealg.IndexString", "math.Float64frombits", "math.Float64bits", "math/bits.Sub64", "math/bits.Add64", "math.archFloor", "math.archTrunc", "internal/abi.NoEscape", "internal/bytealg.MakeNoZero"], unfollowed := true, recurses := true, named := ["unicode/utf8.first", "unicode/utf8.acceptRanges", "internal/bytealg.MaxLen", "math/bits.divideError", "math/bits.overflowError", "math/bits.deBruijn64tab", "internal/strconv.uint64pow10", "math/bits.deBruijn32tab"], apart := false, laid := [("math/bits.deBruijn32tab", laid_math_bits_deBruijn32tab), ("math/bits.deBruijn64tab", laid_math_bits_deBruijn64tab), ("internal/strconv.uint64pow10", laid_internal_strconv_uint64pow10), ("unicode/utf8.acceptRanges", laid_unicode_utf8_acceptRanges), ("unicode/utf8.first", laid_unicode_utf8_first)], narrowed := true }
def EngineBranchesUptoSaid : Prop := engineBranchesUptoRow.holds Tryz.pinned (OpenSpec.upto engineBranchesSpec)

/-- 'rhytonlaw15.EngineDeep', WHERE WHAT IT READS IS OF BULK AT MOST 1048576: true; the input reads as it did. -/
def engineDeepUptoRow : OpenClaim := { program := "ytdokeddjcpnmiaagreatdoor", sum := "9144476293117a52baeed6ece3942c2d9642d9ebd8282e4ce8d01b67f5acafc5", func := "rhyton/rhytonlaw15.EngineDeep", spec := "engineDeep", inPlace := ["internal/bytealg.CountString", "internal/bytealg.IndexByteString", "internal/bytealg.IndexString", "math.Float64frombits", "math.Float64bits", "math/bits.Sub64", "math/bits.Add64", "math.archFloor", "math.archTrunc", "internal/abi.NoEscape", "internal/bytealg.MakeNoZero"], unfollowed := true, recurses := true, named := ["unicode/utf8.first", "unicode/utf8.acceptRanges", "internal/bytealg.MaxLen", "math/bits.divideError", "math/bits.overflowError", "math/bits.deBruijn64tab", "internal/strconv.uint64pow10", "math/bits.deBruijn32tab"], apart := false, laid := [("math/bits.deBruijn32tab", laid_math_bits_deBruijn32tab), ("math/bits.deBruijn64tab", laid_math_bits_deBruijn64tab), ("internal/strconv.uint64pow10", laid_internal_strconv_uint64pow10), ("unicode/utf8.acceptRanges", laid_unicode_utf8_acceptRanges), ("unicode/utf8.first", laid_unicode_utf8_first)], narrowed := true }
def EngineDeepUptoSaid : Prop := engineDeepUptoRow.holds Tryz.pinned (OpenSpec.upto engineDeepSpec)

/-- 'rhytonlaw15.EngineCatches', WHERE WHAT IT READS IS OF BULK AT MOST 1048576: true; the input reads as it did. -/
def engineCatchesUptoRow : OpenClaim := { program := "ytdokeddjcpnmiaagreatdoor", sum := "9144476293117a52baeed6ece3942c2d9642d9ebd8282e4ce8d01b67f5acafc5", func := "rhyton/rhytonlaw15.EngineCatches", spec := "engineCatches", inPlace := ["internal/bytealg.CountString", "internal/bytealg.IndexByteString", "internal/bytealg.IndexString", "math.Float64frombits", "math.Float64bits", "math/bits.Sub64", "math/bits.Add64", "math.archFloor", "math.archTrunc", "internal/abi.NoEscape", "internal/bytealg.MakeNoZero"], unfollowed := true, recurses := true, named := ["unicode/utf8.first", "unicode/utf8.acceptRanges", "internal/bytealg.MaxLen", "math/bits.divideError", "math/bits.overflowError", "math/bits.deBruijn64tab", "internal/strconv.uint64pow10", "math/bits.deBruijn32tab"], apart := false, laid := [("math/bits.deBruijn32tab", laid_math_bits_deBruijn32tab), ("math/bits.deBruijn64tab", laid_math_bits_deBruijn64tab), ("internal/strconv.uint64pow10", laid_internal_strconv_uint64pow10), ("unicode/utf8.acceptRanges", laid_unicode_utf8_acceptRanges), ("unicode/utf8.first", laid_unicode_utf8_first)], narrowed := true }
def EngineCatchesUptoSaid : Prop := engineCatchesUptoRow.holds Tryz.pinned (OpenSpec.upto engineCatchesSpec)

end Rows
end Go.Proofs.YtdokeddjcpnmiaaGreatDoor
