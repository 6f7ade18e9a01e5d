/- A node as words: up to the map of the words of its own (printed by wip/word3.py). -/
import Derived.Test.YtnhhflnanogpjaaGreatDoorWord2
namespace Go.Proofs.YtnhhflnanogpjaaGreatDoor
open Go.RowKit

/-- what is known behind the making of the map -/
def MapMade (w0 : World) (num : Int) (s6 : Value) (wr : World) : Prop :=
  ∃ mb l, s6 = .map (some mb) ∧ w0.heap.size ≤ mb ∧ IMap wr mb l ∧ (∀ k v, atKey l k = some v → GoodW w0 num k v wr) ∧ (∀ p ∈ insW, (atKey l p.2).isSome = true) ∧ Touch [] w0 wr

end Go.Proofs.YtnhhflnanogpjaaGreatDoor
