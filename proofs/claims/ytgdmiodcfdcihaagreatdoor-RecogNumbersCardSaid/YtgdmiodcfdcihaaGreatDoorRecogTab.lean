/- What the rows list: the table of TrailingZeros64, ErrRange, ErrSyntax, MaxLen. -/
import Derived.Test.YtgdmiodcfdcihaaGreatDoorRecogRow
import Derived.Test.YtgdmiodcfdcihaaGreatDoorRecogR
import Derived.Stop.LaidErr
namespace Go.Proofs.YtgdmiodcfdcihaaGreatDoor
open Go.ChangeShapes Go.WideShapes Go.ChangeAt Go.RowKit

theorem g64 : Tryz.prog.globalNamed "math/bits.deBruijn64tab" = some 0 := by kernel_rfl
theorem t64 : (Tryz.prog.globals[0]?).map (·.type) = some 117 := by kernel_rfl
theorem c5 : Tryz.prog.cellsOf 5 = 1 := by kernel_rfl
theorem c64 : Tryz.prog.cellsOf 117 = 64 := by kernel_rfl
theorem laid_tail {P : Program} {x : String × DataW Unit} {l : List (String × DataW Unit)} {w : World} (h : laidMet P (x :: l) w) : laidMet P l w := by
  obtain ⟨n, d⟩ := x
  obtain ⟨ps, ⟨g, t, cs, fuel, p, q, e1, e2, e3, e4, hr, rfl⟩, hnd, hrows⟩ := h
  exact ⟨q, hr, (List.nodup_append.1 hnd).2.1, fun b off hp => hrows b off (List.mem_append_right _ hp)⟩
theorem tz_is {W : World} {rest : List (String × DataW Unit)} (h : laidMet Tryz.prog (("math/bits.deBruijn64tab", Rows.laid_math_bits_deBruijn64tab) :: rest) W) : TzTab W := by
  have e64 : Lib.TabIs Tryz.prog W "math/bits.deBruijn64tab" .u8 (Lib.deBruijn64tab.map Int.ofNat) := Lib.tabIs_of_head g64 t64 (n := 64) (e := 5) (by kernel_rfl) (by kernel_rfl) c5 c64 h
  intro j hj
  have := e64.cell g64 j (by rw [List.length_map]; exact hj)
  rw [this]
  congr 2
  rw [List.getD_eq_getElem?_getD, List.getElem?_map, List.getD_eq_getElem?_getD]
  cases Lib.deBruijn64tab[j]? <;> rfl

theorem gSyn : Tryz.prog.globalNamed "strconv.ErrSyntax" = some 3 := by kernel_rfl
theorem tSyn : (Tryz.prog.globals[3]?).map (·.type) = some 114 := by kernel_rfl
theorem gRng : Tryz.prog.globalNamed "strconv.ErrRange" = some 4 := by kernel_rfl
theorem tRng : (Tryz.prog.globals[4]?).map (·.type) = some 114 := by kernel_rfl
theorem star : "*" ++ "errors.errorString" = "*errors.errorString" := by decide
theorem rowErr (u : TypeId) (h : Tryz.prog.typeName? 3 u = some "*errors.errorString") : u = 152 :=
  typeName_ptr_named (nm := "errors.errorString") (by rw [star]; kernel_rfl) (by kernel_rfl) (by decide) u (by rw [star]; exact h)
theorem cErr : Tryz.prog.cellsOf 154 = 1 := by kernel_rfl
theorem cStr : Tryz.prog.cellsOf 9 = 1 := by kernel_rfl
theorem err_is {W : World} {rest : List (String × DataW Unit)} (h : laidMet Tryz.prog (("strconv.ErrSyntax", Rows.laid_strconv_ErrSyntax) :: rest) W) : ErrIs W := by
  obtain ⟨a, _, hv, _, _, _⟩ := laid_sentinel h gSyn tSyn Tryz.underlying114 rowErr Tryz.underlying152 Tryz.underlying154 rfl rfl Tryz.underlying9 cErr cStr
  have hc : W.cell? ⟨3, 0, none⟩ = some (.iface 152 (.pointer (some a))) := by simpa using World.var?_cell gSyn hv 0
  exact ⟨_, hc, .inr ⟨_, _, rfl⟩⟩
theorem rng_is {W : World} {rest : List (String × DataW Unit)} (h : laidMet Tryz.prog (("strconv.ErrRange", Rows.laid_strconv_ErrRange) :: rest) W) : RngIs W := by
  obtain ⟨a, _, hv, _, _, _⟩ := laid_sentinel h gRng tRng Tryz.underlying114 rowErr Tryz.underlying152 Tryz.underlying154 rfl rfl Tryz.underlying9 cErr cStr
  have hc : W.cell? ⟨4, 0, none⟩ = some (.iface 152 (.pointer (some a))) := by simpa using World.var?_cell gRng hv 0
  exact ⟨_, hc, .inr ⟨_, _, rfl⟩⟩
theorem max_is {W : World} (h : W.ShapedOpen Tryz.prog) : MaxIs W :=
  Go.Proofs.cell_of_shapedOpen_int (zero := #[.int .i64 0]) (t := 3) h (of_decide_eq_true (by kernel_rfl)) (by kernel_rfl) rfl (by kernel_rfl) (by kernel_rfl) Tryz.underlying3
theorem tabs_is {W : World} (h : laidMetH Tryz.prog [("math/bits.deBruijn32tab", Rows.laid_math_bits_deBruijn32tab), ("math/bits.deBruijn64tab", Rows.laid_math_bits_deBruijn64tab), ("internal/strconv.uint64pow10", Rows.laid_internal_strconv_uint64pow10), ("strconv.ErrRange", Rows.laid_strconv_ErrRange), ("strconv.ErrSyntax", Rows.laid_strconv_ErrSyntax)] W) (hS : W.ShapedOpen Tryz.prog) : Tabs W :=
  ⟨tz_is (laid_tail h), max_is hS, err_is (laid_tail (laid_tail (laid_tail (laid_tail h)))), rng_is (laid_tail (laid_tail (laid_tail h)))⟩
end Go.Proofs.YtgdmiodcfdcihaaGreatDoor
