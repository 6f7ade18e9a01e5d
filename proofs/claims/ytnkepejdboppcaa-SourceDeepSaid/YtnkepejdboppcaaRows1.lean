/- Closed facts of the program that every row's proof asks. -/
import Derived.Test.YtnkepejdboppcaaLaw
namespace Go.Proofs.Ytnkepejdboppcaa
theorem laidOut : laidOutB Try.prog = true := by kernel_rfl
theorem cellsStr : Try.prog.cellsOf 9 = 1 := by kernel_rfl
theorem bytesStr : Try.prog.bytesOf 9 = 16 := by kernel_rfl
end Go.Proofs.Ytnkepejdboppcaa
