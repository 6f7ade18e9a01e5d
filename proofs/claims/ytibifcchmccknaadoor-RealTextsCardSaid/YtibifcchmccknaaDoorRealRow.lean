/- What the rows of layer 4 list: three tables; a world for the witness. -/
import Derived.Test.YtibifcchmccknaaDoorReal5
import Derived.Test.YtibifcchmccknaaDoorRows1
import Derived.Test.YtibifcchmccknaaDoorCards
import Derived.Test.YtibifcchmccknaaDoorTie
import Derived.WalkKit
import Derived.ProofKit
import Derived.OpenShut
import Derived.Deep.DeepHandedRow
import Derived.Lib.LaidTab
namespace Go.Proofs.YtibifcchmccknaaDoor
open Go.ChangeShapes Go.WideShapes Go.ChangeAt Go.RowKit

theorem own : ownKnob Tryd.prog.godebug = none := by kernel_rfl
theorem g64 : Tryd.prog.globalNamed "math/bits.deBruijn64tab" = some 1 := by kernel_rfl
theorem t64 : (Tryd.prog.globals[1]?).map (·.type) = some 73 := by kernel_rfl
theorem c64 : Tryd.prog.cellsOf 73 = 64 := by kernel_rfl
theorem gPow : Tryd.prog.globalNamed "internal/strconv.uint64pow10" = some 3 := by kernel_rfl
theorem tPow : (Tryd.prog.globals[3]?).map (·.type) = some 103 := by kernel_rfl
theorem cPow : Tryd.prog.cellsOf 103 = 20 := by kernel_rfl
theorem c5 : Tryd.prog.cellsOf 5 = 1 := by kernel_rfl
theorem c51 : Tryd.prog.cellsOf 51 = 1 := by kernel_rfl

theorem laid_tail {P : Program} {x : String × DataW Unit} {l : List (String × DataW Unit)} {w : World} (h : laidMet P (x :: l) w) : laidMet P l w := by
  obtain ⟨n, d⟩ := x
  obtain ⟨ps, ⟨g, t, cs, fuel, p, q, e1, e2, e3, e4, hr, rfl⟩, hnd, hrows⟩ := h
  exact ⟨q, hr, (List.nodup_append.1 hnd).2.1, fun b off hp => hrows b off (List.mem_append_right _ hp)⟩

/-- WHAT A ROW's LIST GIVES -/
theorem tabs {W : World} {rest : List (String × DataW Unit)} (h : laidMet Tryd.prog (("math/bits.deBruijn32tab", Rows.laid_math_bits_deBruijn32tab) :: ("math/bits.deBruijn64tab", Rows.laid_math_bits_deBruijn64tab) :: ("internal/strconv.uint64pow10", Rows.laid_internal_strconv_uint64pow10) :: rest) W) : TzTab W ∧ PowTab W := by
  have h2 := laid_tail h
  have h3 := laid_tail h2
  have e64 : Lib.TabIs Tryd.prog W "math/bits.deBruijn64tab" .u8 (Lib.deBruijn64tab.map Int.ofNat) := Lib.tabIs_of_head g64 t64 (n := 64) (e := 5) (by kernel_rfl) (by kernel_rfl) c5 c64 h2
  refine ⟨fun j hj => ?_, Lib.tabIs_of_head gPow tPow (n := 20) (e := 51) (by kernel_rfl) (by kernel_rfl) c51 cPow h3⟩
  have := e64.cell g64 j (by rw [List.length_map]; exact hj)
  rw [this]
  congr 2
  rw [List.getD_eq_getElem?_getD, List.getElem?_map, List.getD_eq_getElem?_getD]
  cases Lib.deBruijn64tab[j]? <;> rfl

def putCells (vs : Array Value) : Obj → Obj
  | .cells _ t frozen => .cells vs t frozen
  | o => o
/-- A WORLD FOR THE WITNESS: the settled one, the tables holding what their initialisers lay. -/
noncomputable def laidWorld (os : Os) : World :=
  { World.holding Tryd.prog os ⟨#[], #[], []⟩ with heap := (((World.holding Tryd.prog os ⟨#[], #[], []⟩).heap.modify 1 (putCells (Lib.deBruijn64tab.map fun n : Nat => Value.int .u8 n).toArray)).modify 3 (putCells (Lib.pow10Tab.map fun n : Int => Value.int .u64 n).toArray)).modify 6 (putCells (Lib.deBruijn32tab.map fun n : Nat => Value.int .u8 n).toArray) }
end Go.Proofs.YtibifcchmccknaaDoor
