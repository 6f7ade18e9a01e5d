/- A number's text in a base is that number, read. -/
import Derived.Test.YtgdmiodcfdcihaaGreatDoorText4
import Derived.Test.YtgdmiodcfdcihaaGreatDoorNumber
namespace Go.Proofs.YtgdmiodcfdcihaaGreatDoor
open Go.RowKit

/-- a number as the program's pair -/
def pP (m : Nat) : Int × Int := (pl m, ph m)
theorem b64_cell (n : Nat) (h : n < 18446744073709551616) : b64 (cellOf n) = n := bits_cell n h
theorem b64_w (x : Int) : b64 (wrap64 x) = b64 x := bits_wrap x
theorem w_cell (n : Nat) (h : n < 18446744073709551616) : wrap64 (n : Int) = cellOf n := by
  rw [wrap_cell, show bitsOf (n : Int) = n by unfold bitsOf; omega]
theorem b64_add (a b : Int) : b64 (a + b) = (b64 a + b64 b) % 18446744073709551616 := bits_add a b
theorem b64_nat (n : Nat) (h : n < 18446744073709551616) : b64 (n : Int) = n := by unfold b64; omega
theorem b64_mul (h : Nat) (b : Nat) : b64 (cellOf h * (b : Int)) = (h * b) % 18446744073709551616 := by
  unfold b64 cellOf
  split
  · have : (h : Int) * b = ((h * b : Nat) : Int) := by simp
    rw [this]
    omega
  · have : ((h : Int) - 18446744073709551616) * b = ((h * b : Nat) : Int) - 18446744073709551616 * b := by rw [Int.sub_mul]; simp
    rw [this]
    omega
theorem step_pP (m b d : Nat) (hb : b ≤ 36) (hd : d < b) (hlt : m * b + d < 340282366920938463463374607431768211456) : stepP (pP m) (b : Int) (d : Int) = pP (m * b + d) := by
  have hm : m < 340282366920938463463374607431768211456 := Nat.lt_of_le_of_lt (Nat.le_mul_of_pos_right m (by omega)) (by omega : m * b < _)
  unfold stepP umulP addP ofP pP
  simp only
  have e0 : b64 (b : Int) = b := by unfold b64; omega
  have e1 : b64 (pl m) = m % 18446744073709551616 := b64_cell _ (by omega)
  have e2 : (d : Int) / 9223372036854775808 = 0 := by omega
  have e3 : b64 (d : Int) = d := by unfold b64; omega
  have e4 : b64 (0 : Int) = 0 := rfl
  rw [e0, e1, e2, e3, e4]
  have hM : m * b = 18446744073709551616 * (m / 18446744073709551616 * b) + m % 18446744073709551616 * b := by
    have := Nat.div_add_mod m 18446744073709551616
    rw [← Nat.mul_assoc, ← Nat.add_mul, this]
  have hhi : b64 (wrap64 (wrap64 ((m % 18446744073709551616 * b / 18446744073709551616 : Nat) : Int) + wrap64 (ph m * (b : Int)))) = (m % 18446744073709551616 * b / 18446744073709551616 + m / 18446744073709551616 * b) % 18446744073709551616 := by
    have h3 : b64 (ph m * (b : Int)) = (m / 18446744073709551616 % 18446744073709551616 * b) % 18446744073709551616 := b64_mul _ _
    rw [Nat.mod_eq_of_lt (Nat.div_lt_of_lt_mul (by omega) : m / 18446744073709551616 < 18446744073709551616)] at h3
    have hC64 : m % 18446744073709551616 * b / 18446744073709551616 < 18446744073709551616 := by
      have h1 : m % 18446744073709551616 < 18446744073709551616 := Nat.mod_lt _ (by omega)
      have h2 : m % 18446744073709551616 * b ≤ m % 18446744073709551616 * 36 := Nat.mul_le_mul_left _ hb
      omega
    rw [b64_w, b64_add, b64_w, b64_w, h3, b64_nat _ hC64]
    exact Nat.add_mod_mod _ _ _
  rw [b64_w, hhi]
  have hlo : b64 ((m % 18446744073709551616 * b % 18446744073709551616 : Nat) : Int) = m % 18446744073709551616 * b % 18446744073709551616 := by unfold b64; omega
  rw [hlo]
  obtain ⟨A, hA⟩ : ∃ A, m / 18446744073709551616 * b = A := ⟨_, rfl⟩
  obtain ⟨C, hC⟩ : ∃ C, m % 18446744073709551616 * b = C := ⟨_, rfl⟩
  rw [hA, hC] at hM ⊢
  rw [hM] at hlt ⊢
  clear hM hA hC hhi hlo e0 e1 e2 e3 e4
  have k1 : ((C % 18446744073709551616 : Nat) : Int) + (d : Int) = ((C % 18446744073709551616 + d : Nat) : Int) := by omega
  have k2 : ((C % 18446744073709551616 + d : Nat) : Int) % 18446744073709551616 = (((C % 18446744073709551616 + d) % 18446744073709551616 : Nat) : Int) := by omega
  have k3 : (((C / 18446744073709551616 + A) % 18446744073709551616 : Nat) : Int) + ((0 : Nat) : Int) + ((C % 18446744073709551616 + d : Nat) : Int) / 18446744073709551616 = (((C / 18446744073709551616 + A) % 18446744073709551616 + (C % 18446744073709551616 + d) / 18446744073709551616 : Nat) : Int) := by omega
  have k4 : (((C / 18446744073709551616 + A) % 18446744073709551616 + (C % 18446744073709551616 + d) / 18446744073709551616 : Nat) : Int) % 18446744073709551616 = ((((C / 18446744073709551616 + A) % 18446744073709551616 + (C % 18446744073709551616 + d) / 18446744073709551616) % 18446744073709551616 : Nat) : Int) := by omega
  rw [k1, k2, k3, k4, w_cell _ (by omega), w_cell _ (by omega)]
  unfold pl ph
  rw [show (C % 18446744073709551616 + d) % 18446744073709551616 = (18446744073709551616 * A + C + d) % 18446744073709551616 by omega,
    show ((C / 18446744073709551616 + A) % 18446744073709551616 + (C % 18446744073709551616 + d) / 18446744073709551616) % 18446744073709551616 = (18446744073709551616 * A + C + d) / 18446744073709551616 % 18446744073709551616 by omega]
end Go.Proofs.YtgdmiodcfdcihaaGreatDoor
