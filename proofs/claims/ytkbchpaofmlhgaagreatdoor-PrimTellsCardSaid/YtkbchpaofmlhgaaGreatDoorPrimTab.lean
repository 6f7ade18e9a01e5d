/- What the rows of the Prim door list: three tables; a world for the witness. -/
import Derived.Test.YtkbchpaofmlhgaaGreatDoorRows1S
import Derived.Test.YtkbchpaofmlhgaaGreatDoorCards
import Derived.Test.YtkbchpaofmlhgaaGreatDoorTie
import Derived.WalkKit
import Derived.ProofKit
import Derived.OpenShut
import Derived.Deep.DeepHandedRow
import Derived.Lib.LaidTab
namespace Go.Proofs.YtkbchpaofmlhgaaGreatDoor
open Go.ChangeShapes Go.WideShapes Go.ChangeAt Go.RowKit

theorem own : ownKnob Tryz.prog.godebug = none := by kernel_rfl
def lit0 : DataW Unit → List Value
  | .lit (.int k n) => [.int k n]
  | _ => []
def lit1 : DataW Unit → List Value
  | .agg xs => xs.flatMap lit0
  | _ => []
def putCells (vs : Array Value) : Obj → Obj
  | .cells _ t frozen => .cells vs t frozen
  | o => o
/-- A WORLD FOR THE WITNESS: the settled one, the tables holding what their initialisers lay. -/
noncomputable def laidWorld (os : Os) : World :=
  { World.holding Tryz.prog os ⟨#[], #[], []⟩ with heap := (((World.holding Tryz.prog os ⟨#[], #[], []⟩).heap.modify 6 (putCells (lit1 Rows.laid_math_bits_deBruijn32tab).toArray)).modify 3 (putCells (lit1 Rows.laid_math_bits_deBruijn64tab).toArray)).modify 4 (putCells (lit1 Rows.laid_internal_strconv_uint64pow10).toArray) }
end Go.Proofs.YtkbchpaofmlhgaaGreatDoor
