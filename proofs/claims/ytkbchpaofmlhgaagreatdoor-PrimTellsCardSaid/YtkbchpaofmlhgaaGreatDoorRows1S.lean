/- Closed facts of the program that every row's proof asks. -/
import Derived.Test.YtkbchpaofmlhgaaGreatDoorLawS
namespace Go.Proofs.YtkbchpaofmlhgaaGreatDoor
theorem laidOut : laidOutB Tryz.prog = true := by kernel_rfl
theorem cellsStr : Tryz.prog.cellsOf 9 = 1 := by kernel_rfl
theorem bytesStr : Tryz.prog.bytesOf 9 = 16 := by kernel_rfl
end Go.Proofs.YtkbchpaofmlhgaaGreatDoor
