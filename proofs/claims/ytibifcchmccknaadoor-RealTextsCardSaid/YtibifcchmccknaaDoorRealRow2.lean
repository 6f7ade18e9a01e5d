/- What the rows of RealTexts and RealBack list besides: ErrRange and ErrSyntax; a world for the witness. -/
import Derived.Test.YtibifcchmccknaaDoorRealRow
import Derived.Test.YtibifcchmccknaaDoorReal15
import Derived.Stop.LaidErr
namespace Go.Proofs.YtibifcchmccknaaDoor
open Go.ChangeShapes Go.WideShapes Go.ChangeAt Go.RowKit

theorem gSyn : Tryd.prog.globalNamed "strconv.ErrSyntax" = some 4 := by kernel_rfl
theorem tSyn : (Tryd.prog.globals[4]?).map (·.type) = some 70 := by kernel_rfl
theorem star : "*" ++ "errors.errorString" = "*errors.errorString" := by decide
theorem rowErr (u : TypeId) (h : Tryd.prog.typeName? 3 u = some "*errors.errorString") : u = 123 :=
  typeName_ptr_named (nm := "errors.errorString") (by rw [star]; kernel_rfl) (by kernel_rfl) (by decide) u (by rw [star]; exact h)
theorem cErr : Tryd.prog.cellsOf 125 = 1 := by kernel_rfl
theorem cStr : Tryd.prog.cellsOf 9 = 1 := by kernel_rfl
theorem err_is {W : World} {rest : List (String × DataW Unit)} (h : laidMet Tryd.prog (("strconv.ErrSyntax", Rows.laid_strconv_ErrSyntax) :: rest) W) : ErrIs W := by
  obtain ⟨a, _, hv, _, _, _⟩ := laid_sentinel h gSyn tSyn Tryd.underlying70 rowErr Tryd.underlying123 Tryd.underlying125 rfl rfl Tryd.underlying9 cErr cStr
  have hc : W.cell? ⟨4, 0, none⟩ = some (.iface 123 (.pointer (some a))) := by simpa using World.var?_cell gSyn hv 0
  exact ⟨_, hc, .inr ⟨_, _, rfl⟩⟩
theorem max_is {W : World} (h : W.ShapedOpen Tryd.prog) : MaxIs W :=
  Go.Proofs.cell_of_shapedOpen_int (zero := #[.int .i64 0]) (t := 3) h (of_decide_eq_true (by kernel_rfl)) (by kernel_rfl) rfl (by kernel_rfl) (by kernel_rfl) Tryd.underlying3

abbrev textR : ByteArray := { data := #[118, 97, 108, 117, 101, 32, 111, 117, 116, 32, 111, 102, 32, 114, 97, 110, 103, 101] }
abbrev textS : ByteArray := { data := #[105, 110, 118, 97, 108, 105, 100, 32, 115, 121, 110, 116, 97, 120] }
noncomputable def low : Nat := (World.holding Tryd.prog default ⟨#[], #[], []⟩).heap.size
/-- A WORLD FOR THE WITNESS: the tables, and the two errors as their initialisers lay them. -/
noncomputable def laidWorld5 (os : Os) : World :=
  let w0 := World.holding Tryd.prog os ⟨#[.cells #[.string textR] 125, .cells #[.string textS] 125], #[], []⟩
  { w0 with heap := ((((w0.heap.modify 1 (putCells (Lib.deBruijn64tab.map fun n : Nat => Value.int .u8 n).toArray)).modify 3 (putCells (Lib.pow10Tab.map fun n : Int => Value.int .u64 n).toArray)).modify 6 (putCells (Lib.deBruijn32tab.map fun n : Nat => Value.int .u8 n).toArray)).modify 5 (putCells #[.iface 123 (.pointer (some ⟨low, 0, none⟩))])).modify 4 (putCells #[.iface 123 (.pointer (some ⟨low + 1, 0, none⟩))]) }
end Go.Proofs.YtibifcchmccknaaDoor
