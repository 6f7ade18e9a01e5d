/-
  No cell of these rows narrows 'for every input' (looked for: loops, veiled, ifaces, maps, wideKeys, modest, calm, conditions, laid).
  DERIVED. THE GIVEN ROWS OF THIS SEAT. 4 by the template 'for every input the law returns true; each argument reads behind the call as it read before'; 0 by the template 'total and deterministic' (their statements: YtnkepejdboppcaaTotals.lean).
  GIVEN WITH THE SEED: the statements are not yours to turn. If you find one false, say at which input.
  Laid BY PROGRAM, IN A SANDBOX (cutbox-rows.mjs): the forced cells as the released guide's own fill.sh prints them over the translation 14add3c3ba511018… (all of the seat's roots in one cut). By AI agents, Wed Nov 11 2026. No macro, syntax, notation, axiom, sorry.
-/
import Derived.Test.YtnkepejdboppcaaChecked
import GoSem.Claim
import GoSem.ClaimJoined
import GoSem.ClaimMapViews
import Derived.JoinedTies
import Derived.KernelRfl
namespace Go.Proofs.Ytnkepejdboppcaa
/- THE CELL 'sum', in the pinned program and in every row, IS THE sha256 OF THE DUMP (.gsa) THAT YtnkepejdboppcaaProg.lean LOADS. Nothing in Lean hashes anything: it is a label: what it is worth is what the hold of that sum in a sandbox is worth. -/
noncomputable def Try.pinned : Pinned := { name := "ytnkepejdboppcaa", sum := "14add3c3ba5110182de8856cca51fbae3a4856d50185c4a4abf494bfc0ac10d5", checked := Try.checked }
namespace Rows
def none {H : Type} : Left H := { results := [], args := [] }

/-- 'rhytonlaw08.SourceCuts': WHATEVER THE INPUT: true; the input reads as it did. -/
def sourceCutsSpec : ChangeSpec := { name := "sourceCuts", fn := fun _ => fun
  | [d1, d2] => { results := [.lit (.bool true)], args := [d1, d2] }
  | _ => none }
def sourceCutsRow : OpenClaim := { program := "ytnkepejdboppcaa", sum := "14add3c3ba5110182de8856cca51fbae3a4856d50185c4a4abf494bfc0ac10d5", func := "rhyton/rhytonlaw08.SourceCuts", spec := "sourceCuts", unfollowed := true, recurses := true, apart := false }
def SourceCutsSaid : Prop := sourceCutsRow.holds Try.pinned (OpenSpec.ofChange sourceCutsSpec)

/-- ITS FALSE NEIGHBOUR: 'it returns false'. Refute it at one input. -/
def sourceCutsWrong : ChangeSpec := { name := "sourceCuts", fn := fun _ => fun
  | [d1, d2] => { results := [.lit (.bool false)], args := [d1, d2] }
  | _ => none }
def SourceCutsWrongFalsely : Prop := sourceCutsRow.holds Try.pinned (OpenSpec.ofChange sourceCutsWrong)

/-- 'rhytonlaw08.SourceDeep': WHATEVER THE INPUT: true; the input reads as it did. -/
def sourceDeepSpec : ChangeSpec := { name := "sourceDeep", fn := fun _ => fun
  | [d] => { results := [.lit (.bool true)], args := [d] }
  | _ => none }
def sourceDeepRow : OpenClaim := { program := "ytnkepejdboppcaa", sum := "14add3c3ba5110182de8856cca51fbae3a4856d50185c4a4abf494bfc0ac10d5", func := "rhyton/rhytonlaw08.SourceDeep", spec := "sourceDeep", unfollowed := true, recurses := true, apart := false }
def SourceDeepSaid : Prop := sourceDeepRow.holds Try.pinned (OpenSpec.ofChange sourceDeepSpec)

/-- ITS FALSE NEIGHBOUR: 'it returns false'. Refute it at one input. -/
def sourceDeepWrong : ChangeSpec := { name := "sourceDeep", fn := fun _ => fun
  | [d] => { results := [.lit (.bool false)], args := [d] }
  | _ => none }
def SourceDeepWrongFalsely : Prop := sourceDeepRow.holds Try.pinned (OpenSpec.ofChange sourceDeepWrong)

/-- 'rhytonlaw08.SourceSeeks': WHATEVER THE INPUT: true; the input reads as it did. -/
def sourceSeeksSpec : ChangeSpec := { name := "sourceSeeks", fn := fun _ => fun
  | [d1, d2, d3] => { results := [.lit (.bool true)], args := [d1, d2, d3] }
  | _ => none }
def sourceSeeksRow : OpenClaim := { program := "ytnkepejdboppcaa", sum := "14add3c3ba5110182de8856cca51fbae3a4856d50185c4a4abf494bfc0ac10d5", func := "rhyton/rhytonlaw08.SourceSeeks", spec := "sourceSeeks", unfollowed := true, recurses := true, apart := false }
def SourceSeeksSaid : Prop := sourceSeeksRow.holds Try.pinned (OpenSpec.ofChange sourceSeeksSpec)

/-- ITS FALSE NEIGHBOUR: 'it returns false'. Refute it at one input. -/
def sourceSeeksWrong : ChangeSpec := { name := "sourceSeeks", fn := fun _ => fun
  | [d1, d2, d3] => { results := [.lit (.bool false)], args := [d1, d2, d3] }
  | _ => none }
def SourceSeeksWrongFalsely : Prop := sourceSeeksRow.holds Try.pinned (OpenSpec.ofChange sourceSeeksWrong)

/-- 'rhytonlaw08.SourceSaves': WHATEVER THE INPUT: true; the input reads as it did. -/
def sourceSavesSpec : ChangeSpec := { name := "sourceSaves", fn := fun _ => fun
  | [d1, d2, d3, d4] => { results := [.lit (.bool true)], args := [d1, d2, d3, d4] }
  | _ => none }
def sourceSavesRow : OpenClaim := { program := "ytnkepejdboppcaa", sum := "14add3c3ba5110182de8856cca51fbae3a4856d50185c4a4abf494bfc0ac10d5", func := "rhyton/rhytonlaw08.SourceSaves", spec := "sourceSaves", unfollowed := true, recurses := true, apart := false }
def SourceSavesSaid : Prop := sourceSavesRow.holds Try.pinned (OpenSpec.ofChange sourceSavesSpec)

/-- ITS FALSE NEIGHBOUR: 'it returns false'. Refute it at one input. -/
def sourceSavesWrong : ChangeSpec := { name := "sourceSaves", fn := fun _ => fun
  | [d1, d2, d3, d4] => { results := [.lit (.bool false)], args := [d1, d2, d3, d4] }
  | _ => none }
def SourceSavesWrongFalsely : Prop := sourceSavesRow.holds Try.pinned (OpenSpec.ofChange sourceSavesWrong)

/- THE SECOND FORM. 'bulk': how many values and letters a reading holds, each counted each time it is reached (what is shared counts as often as it is met; a slice's spare places count too). A statement '..UptoSaid' is the law's where the arguments, and the package variables that the reading takes, are together of bulk at most 1048576: NARROWER than '..Said'. Prove '..Said' where nothing that the law and all that it calls make is longer than what came in: it says more and counts as full. Else prove '..UptoSaid'. A law counts once. -/
mutual
def uptoBulk {H : Type} : DataW H → Nat
  | .lit (.string bytes) => bytes.length + 1
  | .lit _ => 1
  | .nil => 1
  | .ptr d => uptoBulk d + 1
  | .slice elems spare => uptoBulkAll elems + uptoBulkAll spare + 1
  | .agg parts => uptoBulkAll parts + 1
  | .iface _ d => uptoBulk d + 1
  | .map entries => uptoBulkEntries entries + 1
  | .held _ => 1
def uptoBulkAll {H : Type} : List (DataW H) → Nat
  | [] => 0
  | d :: r => uptoBulk d + uptoBulkAll r
def uptoBulkEntries {H : Type} : List (Lit × DataW H) → Nat
  | [] => 0
  | x :: r => uptoBulkEntry x + uptoBulkEntries r
def uptoBulkEntry {H : Type} : Lit × DataW H → Nat
  | (.string bytes, d) => bytes.length + uptoBulk d + 1
  | (_, d) => uptoBulk d + 1
 end
def uptoSmall : (H : Type) → List (DataW H) → Bool := fun _ ds => decide (uptoBulkAll ds ≤ 1048576)
def OpenSpec.upto (s : _root_.Go.ChangeSpec) : _root_.Go.OpenSpec := { _root_.Go.OpenSpec.ofChange s with cond := some uptoSmall }

/-- 'rhytonlaw08.SourceCuts', WHERE WHAT IT READS IS OF BULK AT MOST 1048576: true; the input reads as it did. -/
def sourceCutsUptoRow : OpenClaim := { program := "ytnkepejdboppcaa", sum := "14add3c3ba5110182de8856cca51fbae3a4856d50185c4a4abf494bfc0ac10d5", func := "rhyton/rhytonlaw08.SourceCuts", spec := "sourceCuts", unfollowed := true, recurses := true, apart := false, narrowed := true }
def SourceCutsUptoSaid : Prop := sourceCutsUptoRow.holds Try.pinned (OpenSpec.upto sourceCutsSpec)

/-- 'rhytonlaw08.SourceDeep', WHERE WHAT IT READS IS OF BULK AT MOST 1048576: true; the input reads as it did. -/
def sourceDeepUptoRow : OpenClaim := { program := "ytnkepejdboppcaa", sum := "14add3c3ba5110182de8856cca51fbae3a4856d50185c4a4abf494bfc0ac10d5", func := "rhyton/rhytonlaw08.SourceDeep", spec := "sourceDeep", unfollowed := true, recurses := true, apart := false, narrowed := true }
def SourceDeepUptoSaid : Prop := sourceDeepUptoRow.holds Try.pinned (OpenSpec.upto sourceDeepSpec)

/-- 'rhytonlaw08.SourceSeeks', WHERE WHAT IT READS IS OF BULK AT MOST 1048576: true; the input reads as it did. -/
def sourceSeeksUptoRow : OpenClaim := { program := "ytnkepejdboppcaa", sum := "14add3c3ba5110182de8856cca51fbae3a4856d50185c4a4abf494bfc0ac10d5", func := "rhyton/rhytonlaw08.SourceSeeks", spec := "sourceSeeks", unfollowed := true, recurses := true, apart := false, narrowed := true }
def SourceSeeksUptoSaid : Prop := sourceSeeksUptoRow.holds Try.pinned (OpenSpec.upto sourceSeeksSpec)

/-- 'rhytonlaw08.SourceSaves', WHERE WHAT IT READS IS OF BULK AT MOST 1048576: true; the input reads as it did. -/
def sourceSavesUptoRow : OpenClaim := { program := "ytnkepejdboppcaa", sum := "14add3c3ba5110182de8856cca51fbae3a4856d50185c4a4abf494bfc0ac10d5", func := "rhyton/rhytonlaw08.SourceSaves", spec := "sourceSaves", unfollowed := true, recurses := true, apart := false, narrowed := true }
def SourceSavesUptoSaid : Prop := sourceSavesUptoRow.holds Try.pinned (OpenSpec.upto sourceSavesSpec)

end Rows
end Go.Proofs.Ytnkepejdboppcaa
