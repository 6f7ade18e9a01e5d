/- Bits and numbers (the head of XReals). -/
import Derived.Test.YtkbchpaofmlhgaaGreatDoorWorld
namespace Go.Proofs.YtkbchpaofmlhgaaGreatDoor
open Go.RowKit

/-- a cell's bits -/
def bitsOf (a : Int) : Nat := (a % 18446744073709551616).toNat

theorem bitsOf_lt (a : Int) : bitsOf a < 18446744073709551616 := by unfold bitsOf; omega

theorem bitsOf_cast (a : Int) : (bitsOf a : Int) = a % 18446744073709551616 := by unfold bitsOf; omega

/-- bits as a cell -/
def cellOf (n : Nat) : Int := if n < 9223372036854775808 then (n : Int) else (n : Int) - 18446744073709551616

theorem cellOf_bitsOf (a : Int) (h0 : -9223372036854775808 ≤ a) (h1 : a ≤ 9223372036854775807) : cellOf (bitsOf a) = a := by unfold cellOf bitsOf; split <;> omega

end Go.Proofs.YtkbchpaofmlhgaaGreatDoor
