/-
  NARROWER THAN 'FOR EVERY INPUT', by the rows' own cells (each row's printed sentence says how): PrimBelow: laid · PrimNumbers: laid · PrimMemory: laid · PrimCells: laid · PrimErrors: laid · PrimHolds: laid · PrimTells: laid.
  DERIVED. THE GIVEN ROWS OF THIS SEAT. 7 by the template 'for every input the law returns true; each argument reads behind the call as it read before'; 0 by the template 'total and deterministic' (their statements: YtkbchpaofmlhgaaGreatDoorTotals.lean).
  GIVEN WITH THE SEED: the statements are not yours to turn. If you find one false, say at which input.
  Laid BY PROGRAM, IN A SANDBOX (cutbox-rows.mjs): the forced cells as the released guide's own fill.sh prints them over the translation 4e0880d9beb9c5a7… (all of the seat's roots in one cut). By AI agents, Wed Nov 11 2026. No macro, syntax, notation, axiom, sorry.
-/
import Derived.Test.YtkbchpaofmlhgaaGreatDoorChecked
import GoSem.Claim
import GoSem.ClaimJoined
import GoSem.ClaimMapViews
import Derived.JoinedTies
import Derived.KernelRfl
namespace Go.Proofs.YtkbchpaofmlhgaaGreatDoor
/- THE CELL 'sum', in the pinned program and in every row, IS THE sha256 OF THE DUMP (.gsa) THAT YtkbchpaofmlhgaaGreatDoorProg.lean LOADS. Nothing in Lean hashes anything: it is a label: what it is worth is what the hold of that sum in a sandbox is worth. -/
noncomputable def Tryz.pinned : Pinned := { name := "ytkbchpaofmlhgaagreatdoor", sum := "4e0880d9beb9c5a7d441d7f75204f85d1e6c100b3016032280089723763e7f85", checked := Tryz.checked }
namespace Rows
def none {H : Type} : Left H := { results := [], args := [] }

/- WHAT THE LISTED PACKAGE-LEVEL VARIABLES READ AS WHEN THE CALL BEGINS. Each datum BY PROGRAM (the guide's laid-datum.mjs) off the statement by which the dump's own 'gosem.cut.vars' lays the variable. In a bare row this is a premise. The card (YtkbchpaofmlhgaaGreatDoorCards.lean) ties it to the program's text. -/
def laid_math_bits_deBruijn32tab {H : Type} : DataW H := .agg [.lit (.int .u8 0), .lit (.int .u8 1), .lit (.int .u8 28), .lit (.int .u8 2), .lit (.int .u8 29), .lit (.int .u8 14), .lit (.int .u8 24), .lit (.int .u8 3), .lit (.int .u8 30), .lit (.int .u8 22), .lit (.int .u8 20), .lit (.int .u8 15), .lit (.int .u8 25), .lit (.int .u8 17), .lit (.int .u8 4), .lit (.int .u8 8), .lit (.int .u8 31), .lit (.int .u8 27), .lit (.int .u8 13), .lit (.int .u8 23), .lit (.int .u8 21), .lit (.int .u8 19), .lit (.int .u8 16), .lit (.int .u8 7), .lit (.int .u8 26), .lit (.int .u8 12), .lit (.int .u8 18), .lit (.int .u8 6), .lit (.int .u8 11), .lit (.int .u8 5), .lit (.int .u8 10), .lit (.int .u8 9)]
def laid_math_bits_deBruijn64tab {H : Type} : DataW H := .agg [.lit (.int .u8 0), .lit (.int .u8 1), .lit (.int .u8 56), .lit (.int .u8 2), .lit (.int .u8 57), .lit (.int .u8 49), .lit (.int .u8 28), .lit (.int .u8 3), .lit (.int .u8 61), .lit (.int .u8 58), .lit (.int .u8 42), .lit (.int .u8 50), .lit (.int .u8 38), .lit (.int .u8 29), .lit (.int .u8 17), .lit (.int .u8 4), .lit (.int .u8 62), .lit (.int .u8 47), .lit (.int .u8 59), .lit (.int .u8 36), .lit (.int .u8 45), .lit (.int .u8 43), .lit (.int .u8 51), .lit (.int .u8 22), .lit (.int .u8 53), .lit (.int .u8 39), .lit (.int .u8 33), .lit (.int .u8 30), .lit (.int .u8 24), .lit (.int .u8 18), .lit (.int .u8 12), .lit (.int .u8 5), .lit (.int .u8 63), .lit (.int .u8 55), .lit (.int .u8 48), .lit (.int .u8 27), .lit (.int .u8 60), .lit (.int .u8 41), .lit (.int .u8 37), .lit (.int .u8 16), .lit (.int .u8 46), .lit (.int .u8 35), .lit (.int .u8 44), .lit (.int .u8 21), .lit (.int .u8 52), .lit (.int .u8 32), .lit (.int .u8 23), .lit (.int .u8 11), .lit (.int .u8 54), .lit (.int .u8 26), .lit (.int .u8 40), .lit (.int .u8 15), .lit (.int .u8 34), .lit (.int .u8 20), .lit (.int .u8 31), .lit (.int .u8 10), .lit (.int .u8 25), .lit (.int .u8 14), .lit (.int .u8 19), .lit (.int .u8 9), .lit (.int .u8 13), .lit (.int .u8 8), .lit (.int .u8 7), .lit (.int .u8 6)]
def laid_internal_strconv_uint64pow10 {H : Type} : DataW H := .agg [.lit (.int .u64 1), .lit (.int .u64 10), .lit (.int .u64 100), .lit (.int .u64 1000), .lit (.int .u64 10000), .lit (.int .u64 100000), .lit (.int .u64 1000000), .lit (.int .u64 10000000), .lit (.int .u64 100000000), .lit (.int .u64 1000000000), .lit (.int .u64 10000000000), .lit (.int .u64 100000000000), .lit (.int .u64 1000000000000), .lit (.int .u64 10000000000000), .lit (.int .u64 100000000000000), .lit (.int .u64 1000000000000000), .lit (.int .u64 10000000000000000), .lit (.int .u64 100000000000000000), .lit (.int .u64 1000000000000000000), .lit (.int .u64 10000000000000000000)]

/-- 'rhytonlaw13.PrimBelow': WHATEVER THE INPUT: true; the input reads as it did. -/
def primBelowSpec : ChangeSpec := { name := "primBelow", fn := fun _ => fun
  | [d1, d2, d3] => { results := [.lit (.bool true)], args := [d1, d2, d3] }
  | _ => none }
def primBelowRow : OpenClaim := { program := "ytkbchpaofmlhgaagreatdoor", sum := "4e0880d9beb9c5a7d441d7f75204f85d1e6c100b3016032280089723763e7f85", func := "rhyton/rhytonlaw13.PrimBelow", spec := "primBelow", inPlace := ["math.Float64frombits", "math.Float64bits", "math/bits.Sub64", "math/bits.Add64", "math.archFloor", "math.archTrunc", "internal/abi.NoEscape", "internal/bytealg.MakeNoZero"], unfollowed := true, recurses := true, named := ["math/bits.divideError", "math/bits.overflowError", "math/bits.deBruijn64tab", "internal/strconv.uint64pow10", "math/bits.deBruijn32tab"], apart := false, laid := [("math/bits.deBruijn32tab", laid_math_bits_deBruijn32tab), ("math/bits.deBruijn64tab", laid_math_bits_deBruijn64tab), ("internal/strconv.uint64pow10", laid_internal_strconv_uint64pow10)] }
def PrimBelowSaid : Prop := primBelowRow.holds Tryz.pinned (OpenSpec.ofChange primBelowSpec)

/-- ITS FALSE NEIGHBOUR: 'it returns false'. Refute it at one input. -/
def primBelowWrong : ChangeSpec := { name := "primBelow", fn := fun _ => fun
  | [d1, d2, d3] => { results := [.lit (.bool false)], args := [d1, d2, d3] }
  | _ => none }
def PrimBelowWrongFalsely : Prop := primBelowRow.holds Tryz.pinned (OpenSpec.ofChange primBelowWrong)

/-- 'rhytonlaw13.PrimNumbers': WHATEVER THE INPUT: true; the input reads as it did. -/
def primNumbersSpec : ChangeSpec := { name := "primNumbers", fn := fun _ => fun
  | [d1, d2] => { results := [.lit (.bool true)], args := [d1, d2] }
  | _ => none }
def primNumbersRow : OpenClaim := { program := "ytkbchpaofmlhgaagreatdoor", sum := "4e0880d9beb9c5a7d441d7f75204f85d1e6c100b3016032280089723763e7f85", func := "rhyton/rhytonlaw13.PrimNumbers", spec := "primNumbers", inPlace := ["math.Float64frombits", "math.Float64bits", "math/bits.Sub64", "math/bits.Add64", "math.archFloor", "math.archTrunc", "internal/abi.NoEscape", "internal/bytealg.MakeNoZero"], unfollowed := true, recurses := true, named := ["math/bits.divideError", "math/bits.overflowError", "math/bits.deBruijn64tab", "internal/strconv.uint64pow10", "math/bits.deBruijn32tab"], apart := false, laid := [("math/bits.deBruijn32tab", laid_math_bits_deBruijn32tab), ("math/bits.deBruijn64tab", laid_math_bits_deBruijn64tab), ("internal/strconv.uint64pow10", laid_internal_strconv_uint64pow10)] }
def PrimNumbersSaid : Prop := primNumbersRow.holds Tryz.pinned (OpenSpec.ofChange primNumbersSpec)

/-- ITS FALSE NEIGHBOUR: 'it returns false'. Refute it at one input. -/
def primNumbersWrong : ChangeSpec := { name := "primNumbers", fn := fun _ => fun
  | [d1, d2] => { results := [.lit (.bool false)], args := [d1, d2] }
  | _ => none }
def PrimNumbersWrongFalsely : Prop := primNumbersRow.holds Tryz.pinned (OpenSpec.ofChange primNumbersWrong)

/-- 'rhytonlaw13.PrimMemory': WHATEVER THE INPUT: true; the input reads as it did. -/
def primMemorySpec : ChangeSpec := { name := "primMemory", fn := fun _ => fun
  | [d1, d2, d3, d4] => { results := [.lit (.bool true)], args := [d1, d2, d3, d4] }
  | _ => none }
def primMemoryRow : OpenClaim := { program := "ytkbchpaofmlhgaagreatdoor", sum := "4e0880d9beb9c5a7d441d7f75204f85d1e6c100b3016032280089723763e7f85", func := "rhyton/rhytonlaw13.PrimMemory", spec := "primMemory", inPlace := ["math.Float64frombits", "math.Float64bits", "math/bits.Sub64", "math/bits.Add64", "math.archFloor", "math.archTrunc", "internal/abi.NoEscape", "internal/bytealg.MakeNoZero"], unfollowed := true, recurses := true, named := ["math/bits.divideError", "math/bits.overflowError", "math/bits.deBruijn64tab", "internal/strconv.uint64pow10", "math/bits.deBruijn32tab"], apart := false, laid := [("math/bits.deBruijn32tab", laid_math_bits_deBruijn32tab), ("math/bits.deBruijn64tab", laid_math_bits_deBruijn64tab), ("internal/strconv.uint64pow10", laid_internal_strconv_uint64pow10)] }
def PrimMemorySaid : Prop := primMemoryRow.holds Tryz.pinned (OpenSpec.ofChange primMemorySpec)

/-- ITS FALSE NEIGHBOUR: 'it returns false'. Refute it at one input. -/
def primMemoryWrong : ChangeSpec := { name := "primMemory", fn := fun _ => fun
  | [d1, d2, d3, d4] => { results := [.lit (.bool false)], args := [d1, d2, d3, d4] }
  | _ => none }
def PrimMemoryWrongFalsely : Prop := primMemoryRow.holds Tryz.pinned (OpenSpec.ofChange primMemoryWrong)

/-- 'rhytonlaw13.PrimCells': WHATEVER THE INPUT: true; the input reads as it did. -/
def primCellsSpec : ChangeSpec := { name := "primCells", fn := fun _ => fun
  | [d1, d2] => { results := [.lit (.bool true)], args := [d1, d2] }
  | _ => none }
def primCellsRow : OpenClaim := { program := "ytkbchpaofmlhgaagreatdoor", sum := "4e0880d9beb9c5a7d441d7f75204f85d1e6c100b3016032280089723763e7f85", func := "rhyton/rhytonlaw13.PrimCells", spec := "primCells", inPlace := ["math.Float64frombits", "math.Float64bits", "math/bits.Sub64", "math/bits.Add64", "math.archFloor", "math.archTrunc", "internal/abi.NoEscape", "internal/bytealg.MakeNoZero"], unfollowed := true, recurses := true, named := ["math/bits.divideError", "math/bits.overflowError", "math/bits.deBruijn64tab", "internal/strconv.uint64pow10", "math/bits.deBruijn32tab"], apart := false, laid := [("math/bits.deBruijn32tab", laid_math_bits_deBruijn32tab), ("math/bits.deBruijn64tab", laid_math_bits_deBruijn64tab), ("internal/strconv.uint64pow10", laid_internal_strconv_uint64pow10)] }
def PrimCellsSaid : Prop := primCellsRow.holds Tryz.pinned (OpenSpec.ofChange primCellsSpec)

/-- ITS FALSE NEIGHBOUR: 'it returns false'. Refute it at one input. -/
def primCellsWrong : ChangeSpec := { name := "primCells", fn := fun _ => fun
  | [d1, d2] => { results := [.lit (.bool false)], args := [d1, d2] }
  | _ => none }
def PrimCellsWrongFalsely : Prop := primCellsRow.holds Tryz.pinned (OpenSpec.ofChange primCellsWrong)

/-- 'rhytonlaw13.PrimErrors': WHATEVER THE INPUT: true; the input reads as it did. -/
def primErrorsSpec : ChangeSpec := { name := "primErrors", fn := fun _ => fun
  | [d1, d2] => { results := [.lit (.bool true)], args := [d1, d2] }
  | _ => none }
def primErrorsRow : OpenClaim := { program := "ytkbchpaofmlhgaagreatdoor", sum := "4e0880d9beb9c5a7d441d7f75204f85d1e6c100b3016032280089723763e7f85", func := "rhyton/rhytonlaw13.PrimErrors", spec := "primErrors", inPlace := ["math.Float64frombits", "math.Float64bits", "math/bits.Sub64", "math/bits.Add64", "math.archFloor", "math.archTrunc", "internal/abi.NoEscape", "internal/bytealg.MakeNoZero"], unfollowed := true, recurses := true, named := ["math/bits.divideError", "math/bits.overflowError", "math/bits.deBruijn64tab", "internal/strconv.uint64pow10", "math/bits.deBruijn32tab"], apart := false, laid := [("math/bits.deBruijn32tab", laid_math_bits_deBruijn32tab), ("math/bits.deBruijn64tab", laid_math_bits_deBruijn64tab), ("internal/strconv.uint64pow10", laid_internal_strconv_uint64pow10)] }
def PrimErrorsSaid : Prop := primErrorsRow.holds Tryz.pinned (OpenSpec.ofChange primErrorsSpec)

/-- ITS FALSE NEIGHBOUR: 'it returns false'. Refute it at one input. -/
def primErrorsWrong : ChangeSpec := { name := "primErrors", fn := fun _ => fun
  | [d1, d2] => { results := [.lit (.bool false)], args := [d1, d2] }
  | _ => none }
def PrimErrorsWrongFalsely : Prop := primErrorsRow.holds Tryz.pinned (OpenSpec.ofChange primErrorsWrong)

/-- 'rhytonlaw13.PrimHolds': WHATEVER THE INPUT: true; the input reads as it did. -/
def primHoldsSpec : ChangeSpec := { name := "primHolds", fn := fun _ => fun
  | [d1, d2] => { results := [.lit (.bool true)], args := [d1, d2] }
  | _ => none }
def primHoldsRow : OpenClaim := { program := "ytkbchpaofmlhgaagreatdoor", sum := "4e0880d9beb9c5a7d441d7f75204f85d1e6c100b3016032280089723763e7f85", func := "rhyton/rhytonlaw13.PrimHolds", spec := "primHolds", inPlace := ["math.Float64frombits", "math.Float64bits", "math/bits.Sub64", "math/bits.Add64", "math.archFloor", "math.archTrunc", "internal/abi.NoEscape", "internal/bytealg.MakeNoZero"], unfollowed := true, recurses := true, named := ["math/bits.divideError", "math/bits.overflowError", "math/bits.deBruijn64tab", "internal/strconv.uint64pow10", "math/bits.deBruijn32tab"], apart := false, laid := [("math/bits.deBruijn32tab", laid_math_bits_deBruijn32tab), ("math/bits.deBruijn64tab", laid_math_bits_deBruijn64tab), ("internal/strconv.uint64pow10", laid_internal_strconv_uint64pow10)] }
def PrimHoldsSaid : Prop := primHoldsRow.holds Tryz.pinned (OpenSpec.ofChange primHoldsSpec)

/-- ITS FALSE NEIGHBOUR: 'it returns false'. Refute it at one input. -/
def primHoldsWrong : ChangeSpec := { name := "primHolds", fn := fun _ => fun
  | [d1, d2] => { results := [.lit (.bool false)], args := [d1, d2] }
  | _ => none }
def PrimHoldsWrongFalsely : Prop := primHoldsRow.holds Tryz.pinned (OpenSpec.ofChange primHoldsWrong)

/-- 'rhytonlaw13.PrimTells': WHATEVER THE INPUT: true; the input reads as it did. -/
def primTellsSpec : ChangeSpec := { name := "primTells", fn := fun _ => fun
  | [d1, d2] => { results := [.lit (.bool true)], args := [d1, d2] }
  | _ => none }
def primTellsRow : OpenClaim := { program := "ytkbchpaofmlhgaagreatdoor", sum := "4e0880d9beb9c5a7d441d7f75204f85d1e6c100b3016032280089723763e7f85", func := "rhyton/rhytonlaw13.PrimTells", spec := "primTells", inPlace := ["math.Float64frombits", "math.Float64bits", "math/bits.Sub64", "math/bits.Add64", "math.archFloor", "math.archTrunc", "internal/abi.NoEscape", "internal/bytealg.MakeNoZero"], unfollowed := true, recurses := true, named := ["math/bits.divideError", "math/bits.overflowError", "math/bits.deBruijn64tab", "internal/strconv.uint64pow10", "math/bits.deBruijn32tab"], apart := false, laid := [("math/bits.deBruijn32tab", laid_math_bits_deBruijn32tab), ("math/bits.deBruijn64tab", laid_math_bits_deBruijn64tab), ("internal/strconv.uint64pow10", laid_internal_strconv_uint64pow10)] }
def PrimTellsSaid : Prop := primTellsRow.holds Tryz.pinned (OpenSpec.ofChange primTellsSpec)

/-- ITS FALSE NEIGHBOUR: 'it returns false'. Refute it at one input. -/
def primTellsWrong : ChangeSpec := { name := "primTells", fn := fun _ => fun
  | [d1, d2] => { results := [.lit (.bool false)], args := [d1, d2] }
  | _ => none }
def PrimTellsWrongFalsely : Prop := primTellsRow.holds Tryz.pinned (OpenSpec.ofChange primTellsWrong)

/- THE SECOND FORM. 'bulk': how many values and letters a reading holds, each counted each time it is reached (what is shared counts as often as it is met; a slice's spare places count too). A statement '..UptoSaid' is the law's where the arguments, and the package variables that the reading takes, are together of bulk at most 1048576: NARROWER than '..Said'. Prove '..Said' where nothing that the law and all that it calls make is longer than what came in: it says more and counts as full. Else prove '..UptoSaid'. A law counts once. -/
mutual
def uptoBulk {H : Type} : DataW H → Nat
  | .lit (.string bytes) => bytes.length + 1
  | .lit _ => 1
  | .nil => 1
  | .ptr d => uptoBulk d + 1
  | .slice elems spare => uptoBulkAll elems + uptoBulkAll spare + 1
  | .agg parts => uptoBulkAll parts + 1
  | .iface _ d => uptoBulk d + 1
  | .map entries => uptoBulkEntries entries + 1
  | .held _ => 1
def uptoBulkAll {H : Type} : List (DataW H) → Nat
  | [] => 0
  | d :: r => uptoBulk d + uptoBulkAll r
def uptoBulkEntries {H : Type} : List (Lit × DataW H) → Nat
  | [] => 0
  | x :: r => uptoBulkEntry x + uptoBulkEntries r
def uptoBulkEntry {H : Type} : Lit × DataW H → Nat
  | (.string bytes, d) => bytes.length + uptoBulk d + 1
  | (_, d) => uptoBulk d + 1
 end
def uptoSmall : (H : Type) → List (DataW H) → Bool := fun _ ds => decide (uptoBulkAll ds ≤ 1048576)
def OpenSpec.upto (s : _root_.Go.ChangeSpec) : _root_.Go.OpenSpec := { _root_.Go.OpenSpec.ofChange s with cond := some uptoSmall }

/-- 'rhytonlaw13.PrimBelow', WHERE WHAT IT READS IS OF BULK AT MOST 1048576: true; the input reads as it did. -/
def primBelowUptoRow : OpenClaim := { program := "ytkbchpaofmlhgaagreatdoor", sum := "4e0880d9beb9c5a7d441d7f75204f85d1e6c100b3016032280089723763e7f85", func := "rhyton/rhytonlaw13.PrimBelow", spec := "primBelow", inPlace := ["math.Float64frombits", "math.Float64bits", "math/bits.Sub64", "math/bits.Add64", "math.archFloor", "math.archTrunc", "internal/abi.NoEscape", "internal/bytealg.MakeNoZero"], unfollowed := true, recurses := true, named := ["math/bits.divideError", "math/bits.overflowError", "math/bits.deBruijn64tab", "internal/strconv.uint64pow10", "math/bits.deBruijn32tab"], apart := false, laid := [("math/bits.deBruijn32tab", laid_math_bits_deBruijn32tab), ("math/bits.deBruijn64tab", laid_math_bits_deBruijn64tab), ("internal/strconv.uint64pow10", laid_internal_strconv_uint64pow10)], narrowed := true }
def PrimBelowUptoSaid : Prop := primBelowUptoRow.holds Tryz.pinned (OpenSpec.upto primBelowSpec)

/-- 'rhytonlaw13.PrimNumbers', WHERE WHAT IT READS IS OF BULK AT MOST 1048576: true; the input reads as it did. -/
def primNumbersUptoRow : OpenClaim := { program := "ytkbchpaofmlhgaagreatdoor", sum := "4e0880d9beb9c5a7d441d7f75204f85d1e6c100b3016032280089723763e7f85", func := "rhyton/rhytonlaw13.PrimNumbers", spec := "primNumbers", inPlace := ["math.Float64frombits", "math.Float64bits", "math/bits.Sub64", "math/bits.Add64", "math.archFloor", "math.archTrunc", "internal/abi.NoEscape", "internal/bytealg.MakeNoZero"], unfollowed := true, recurses := true, named := ["math/bits.divideError", "math/bits.overflowError", "math/bits.deBruijn64tab", "internal/strconv.uint64pow10", "math/bits.deBruijn32tab"], apart := false, laid := [("math/bits.deBruijn32tab", laid_math_bits_deBruijn32tab), ("math/bits.deBruijn64tab", laid_math_bits_deBruijn64tab), ("internal/strconv.uint64pow10", laid_internal_strconv_uint64pow10)], narrowed := true }
def PrimNumbersUptoSaid : Prop := primNumbersUptoRow.holds Tryz.pinned (OpenSpec.upto primNumbersSpec)

/-- 'rhytonlaw13.PrimMemory', WHERE WHAT IT READS IS OF BULK AT MOST 1048576: true; the input reads as it did. -/
def primMemoryUptoRow : OpenClaim := { program := "ytkbchpaofmlhgaagreatdoor", sum := "4e0880d9beb9c5a7d441d7f75204f85d1e6c100b3016032280089723763e7f85", func := "rhyton/rhytonlaw13.PrimMemory", spec := "primMemory", inPlace := ["math.Float64frombits", "math.Float64bits", "math/bits.Sub64", "math/bits.Add64", "math.archFloor", "math.archTrunc", "internal/abi.NoEscape", "internal/bytealg.MakeNoZero"], unfollowed := true, recurses := true, named := ["math/bits.divideError", "math/bits.overflowError", "math/bits.deBruijn64tab", "internal/strconv.uint64pow10", "math/bits.deBruijn32tab"], apart := false, laid := [("math/bits.deBruijn32tab", laid_math_bits_deBruijn32tab), ("math/bits.deBruijn64tab", laid_math_bits_deBruijn64tab), ("internal/strconv.uint64pow10", laid_internal_strconv_uint64pow10)], narrowed := true }
def PrimMemoryUptoSaid : Prop := primMemoryUptoRow.holds Tryz.pinned (OpenSpec.upto primMemorySpec)

/-- 'rhytonlaw13.PrimCells', WHERE WHAT IT READS IS OF BULK AT MOST 1048576: true; the input reads as it did. -/
def primCellsUptoRow : OpenClaim := { program := "ytkbchpaofmlhgaagreatdoor", sum := "4e0880d9beb9c5a7d441d7f75204f85d1e6c100b3016032280089723763e7f85", func := "rhyton/rhytonlaw13.PrimCells", spec := "primCells", inPlace := ["math.Float64frombits", "math.Float64bits", "math/bits.Sub64", "math/bits.Add64", "math.archFloor", "math.archTrunc", "internal/abi.NoEscape", "internal/bytealg.MakeNoZero"], unfollowed := true, recurses := true, named := ["math/bits.divideError", "math/bits.overflowError", "math/bits.deBruijn64tab", "internal/strconv.uint64pow10", "math/bits.deBruijn32tab"], apart := false, laid := [("math/bits.deBruijn32tab", laid_math_bits_deBruijn32tab), ("math/bits.deBruijn64tab", laid_math_bits_deBruijn64tab), ("internal/strconv.uint64pow10", laid_internal_strconv_uint64pow10)], narrowed := true }
def PrimCellsUptoSaid : Prop := primCellsUptoRow.holds Tryz.pinned (OpenSpec.upto primCellsSpec)

/-- 'rhytonlaw13.PrimErrors', WHERE WHAT IT READS IS OF BULK AT MOST 1048576: true; the input reads as it did. -/
def primErrorsUptoRow : OpenClaim := { program := "ytkbchpaofmlhgaagreatdoor", sum := "4e0880d9beb9c5a7d441d7f75204f85d1e6c100b3016032280089723763e7f85", func := "rhyton/rhytonlaw13.PrimErrors", spec := "primErrors", inPlace := ["math.Float64frombits", "math.Float64bits", "math/bits.Sub64", "math/bits.Add64", "math.archFloor", "math.archTrunc", "internal/abi.NoEscape", "internal/bytealg.MakeNoZero"], unfollowed := true, recurses := true, named := ["math/bits.divideError", "math/bits.overflowError", "math/bits.deBruijn64tab", "internal/strconv.uint64pow10", "math/bits.deBruijn32tab"], apart := false, laid := [("math/bits.deBruijn32tab", laid_math_bits_deBruijn32tab), ("math/bits.deBruijn64tab", laid_math_bits_deBruijn64tab), ("internal/strconv.uint64pow10", laid_internal_strconv_uint64pow10)], narrowed := true }
def PrimErrorsUptoSaid : Prop := primErrorsUptoRow.holds Tryz.pinned (OpenSpec.upto primErrorsSpec)

/-- 'rhytonlaw13.PrimHolds', WHERE WHAT IT READS IS OF BULK AT MOST 1048576: true; the input reads as it did. -/
def primHoldsUptoRow : OpenClaim := { program := "ytkbchpaofmlhgaagreatdoor", sum := "4e0880d9beb9c5a7d441d7f75204f85d1e6c100b3016032280089723763e7f85", func := "rhyton/rhytonlaw13.PrimHolds", spec := "primHolds", inPlace := ["math.Float64frombits", "math.Float64bits", "math/bits.Sub64", "math/bits.Add64", "math.archFloor", "math.archTrunc", "internal/abi.NoEscape", "internal/bytealg.MakeNoZero"], unfollowed := true, recurses := true, named := ["math/bits.divideError", "math/bits.overflowError", "math/bits.deBruijn64tab", "internal/strconv.uint64pow10", "math/bits.deBruijn32tab"], apart := false, laid := [("math/bits.deBruijn32tab", laid_math_bits_deBruijn32tab), ("math/bits.deBruijn64tab", laid_math_bits_deBruijn64tab), ("internal/strconv.uint64pow10", laid_internal_strconv_uint64pow10)], narrowed := true }
def PrimHoldsUptoSaid : Prop := primHoldsUptoRow.holds Tryz.pinned (OpenSpec.upto primHoldsSpec)

/-- 'rhytonlaw13.PrimTells', WHERE WHAT IT READS IS OF BULK AT MOST 1048576: true; the input reads as it did. -/
def primTellsUptoRow : OpenClaim := { program := "ytkbchpaofmlhgaagreatdoor", sum := "4e0880d9beb9c5a7d441d7f75204f85d1e6c100b3016032280089723763e7f85", func := "rhyton/rhytonlaw13.PrimTells", spec := "primTells", inPlace := ["math.Float64frombits", "math.Float64bits", "math/bits.Sub64", "math/bits.Add64", "math.archFloor", "math.archTrunc", "internal/abi.NoEscape", "internal/bytealg.MakeNoZero"], unfollowed := true, recurses := true, named := ["math/bits.divideError", "math/bits.overflowError", "math/bits.deBruijn64tab", "internal/strconv.uint64pow10", "math/bits.deBruijn32tab"], apart := false, laid := [("math/bits.deBruijn32tab", laid_math_bits_deBruijn32tab), ("math/bits.deBruijn64tab", laid_math_bits_deBruijn64tab), ("internal/strconv.uint64pow10", laid_internal_strconv_uint64pow10)], narrowed := true }
def PrimTellsUptoSaid : Prop := primTellsUptoRow.holds Tryz.pinned (OpenSpec.upto primTellsSpec)

end Rows
end Go.Proofs.YtkbchpaofmlhgaaGreatDoor
