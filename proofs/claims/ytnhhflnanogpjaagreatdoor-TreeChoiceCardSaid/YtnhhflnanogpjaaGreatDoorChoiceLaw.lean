/- TreeChoice: the loop that is left, for each of its twenty numbers (plain law, by the kernel). -/
import Derived.Test.YtnhhflnanogpjaaGreatDoorMean
import Derived.Test.YtnhhflnanogpjaaGreatDoorShelf6
namespace Go.Proofs.YtnhhflnanogpjaaGreatDoor
open Go.RowKit

def leftL (last : Int) : List NodeV := [⟨1, 50, []⟩, ⟨1, 0, []⟩, ⟨8, 0, []⟩, ⟨1, last, []⟩, ⟨2, 21, []⟩, ⟨9, 0, []⟩, ⟨3, 0, []⟩, ⟨4, 0, [5, 6]⟩, ⟨8, 0, []⟩, ⟨3, 0, [2, 3, 4, 7, 8]⟩, ⟨5, 0, [9]⟩, ⟨3, 0, [0, 1, 10]⟩]
/-- WHAT THE LEAVING LOOP MEANS, in one word of yes or no -/
def leftOk (k : Nat) : Bool := match meanF (leftL ((k : Int) + 1)) 0 [] 2000 with
  | ⟨st, _, done, _⟩ => done && decide (st = (List.range (k + 1)).map Int.ofNat)
theorem left_ok : (List.range 20).all leftOk = true := by kernel_rfl
end Go.Proofs.YtnhhflnanogpjaaGreatDoor
