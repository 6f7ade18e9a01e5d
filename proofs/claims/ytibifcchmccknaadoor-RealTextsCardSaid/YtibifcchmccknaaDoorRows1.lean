/- Closed facts of the program that every row's proof asks. -/
import Derived.Test.YtibifcchmccknaaDoorLaw
namespace Go.Proofs.YtibifcchmccknaaDoor
theorem laidOut : laidOutB Tryd.prog = true := by kernel_rfl
theorem cellsStr : Tryd.prog.cellsOf 9 = 1 := by kernel_rfl
theorem bytesStr : Tryd.prog.bytesOf 9 = 16 := by kernel_rfl
end Go.Proofs.YtibifcchmccknaaDoor
