/- Plain laws of cells that lie in bytes: what is put is got again. -/
import Derived.Test.YtkbchpaofmlhgaaGreatDoorMem3
import Derived.Laws.BitsAllLaws
namespace Go.Proofs.YtkbchpaofmlhgaaGreatDoor
open Go.RowKit

theorem ofInt_wrap (a : Int) : BitVec.ofInt 64 (wrap64 a) = BitVec.ofInt 64 a := by
  apply BitVec.eq_of_toNat_eq
  rw [BitVec.toNat_ofInt, BitVec.toNat_ofInt]
  congr 1
  unfold wrap64
  omega
theorem or_wrap (a b : Nat) : bits .or .i64 (wrap64 a) (wrap64 b) = wrap64 ((a % 18446744073709551616 ||| b % 18446744073709551616 : Nat) : Int) := by
  show IntKind.i64.wrap ((BitVec.ofInt 64 (wrap64 a) ||| BitVec.ofInt 64 (wrap64 b)).toNat : Int) = _
  rw [ofInt_wrap, ofInt_wrap, BitVec.toNat_or, BitVec.ofInt_natCast, BitVec.ofInt_natCast, BitVec.toNat_ofNat, BitVec.toNat_ofNat, IntKind.wrap_i64, show (2 : Nat) ^ 64 = 18446744073709551616 from rfl]
  unfold wrap64
  omega
/-- bytes as a number -/
def natF (f : Nat → Nat) : Nat → Nat
  | 0 => 0
  | i + 1 => natF f i + f i * 2 ^ (8 * i)
theorem natF_lt (f : Nat → Nat) : ∀ i, (∀ j, j < i → f j < 256) → natF f i < 2 ^ (8 * i)
  | 0, _ => by simp [natF]
  | i + 1, h => by
    have h1 := natF_lt f i (fun j hj => h j (by omega))
    have h2 := h i (by omega)
    have e : 2 ^ (8 * (i + 1)) = 256 * 2 ^ (8 * i) := by rw [show 8 * (i + 1) = 8 + 8 * i by omega, Nat.pow_add]
    rw [natF, e]
    have h3 : f i * 2 ^ (8 * i) ≤ 255 * 2 ^ (8 * i) := Nat.mul_le_mul_right _ (by omega)
    omega
theorem orF_nat (bs : List Int) (p : Nat) (f : Nat → Nat) : ∀ i, i ≤ 8 → (∀ j, j < i → bs.getD (p + j) 0 = (f j : Int) ∧ f j < 256) → orF bs p i = wrap64 (natF f i)
  | 0, _, _ => by rw [orF, natF]; unfold wrap64; omega
  | i + 1, hi, h => by
    have h1 := orF_nat bs p f i (by omega) (fun j hj => h j (by omega))
    have h2 := natF_lt f i (fun j hj => (h j (by omega)).2)
    have h3 := natF_lt f (i + 1) (fun j hj => (h j (by omega)).2)
    have h4 : (2 : Nat) ^ (8 * (i + 1)) ≤ 2 ^ 64 := Nat.pow_le_pow_right (by decide) (by omega)
    rw [orF, h1, (h i (by omega)).1, show ((f i : Int) * 2 ^ (8 * i)) = ((f i * 2 ^ (8 * i) : Nat) : Int) by simp, or_wrap]
    rw [natF] at h3 ⊢
    rw [Nat.mod_eq_of_lt (by omega), Nat.mod_eq_of_lt (by omega)]
    congr 2
    rw [Nat.or_comm, Nat.add_comm, Nat.mul_comm]
    exact (Nat.two_pow_add_eq_or_of_lt h2 (f i)).symm
theorem natF_congr {f g : Nat → Nat} : ∀ i, (∀ j, j < i → f j = g j) → natF f i = natF g i
  | 0, _ => rfl
  | i + 1, h => by rw [natF, natF, natF_congr i (fun j hj => h j (by omega)), h i (by omega)]
theorem getDi_set (l : List Int) (i j : Nat) (x : Int) (hi : i < l.length) : (l.set i x).getD j 0 = if i = j then x else l.getD j 0 := by
  simp only [List.getD, List.getElem?_set]
  split
  · rename_i h
    subst h
    simp
  · rfl
theorem putF_get (bs : List Int) (p : Nat) (x : Int) : ∀ i, p + i ≤ bs.length → ∀ q, (putF bs p x i).getD q 0 = if p ≤ q ∧ q < p + i then x / 2 ^ (8 * (q - p)) % 256 else bs.getD q 0
  | 0, _, q => by rw [putF, if_neg (by omega)]
  | i + 1, h, q => by
    rw [putF, getDi_set _ _ _ _ (by rw [putF_len]; omega), putF_get bs p x i (by omega) q]
    by_cases h1 : p + i = q
    · rw [if_pos h1, if_pos (by omega)]
      rw [show q - p = i by omega]
    · rw [if_neg h1]
      by_cases h2 : p ≤ q ∧ q < p + i
      · rw [if_pos h2, if_pos (by omega)]
      · rw [if_neg h2, if_neg (by omega)]
theorem natF_div (x : Int) : ∀ i, (natF (fun j => (x / 2 ^ (8 * j) % 256).toNat) i : Int) = x % 2 ^ (8 * i)
  | 0 => by simp [natF]
  | i + 1 => by
    have h1 := natF_div x i
    have e : (2 : Int) ^ (8 * (i + 1)) = 2 ^ (8 * i) * 256 := by rw [show 8 * (i + 1) = 8 * i + 8 by omega, Int.pow_add]; rfl
    have h2 : 0 ≤ x / 2 ^ (8 * i) % 256 := Int.emod_nonneg _ (by decide)
    rw [natF, Int.natCast_add, h1, Int.natCast_mul, Int.toNat_of_nonneg h2, e, Int.natCast_pow]
    have hp : (0 : Int) ≤ 2 ^ (8 * i) := Int.pow_nonneg (by decide)
    have h3 : x % (2 ^ (8 * i) * 256) = x % 2 ^ (8 * i) + 2 ^ (8 * i) * (x / 2 ^ (8 * i) % 256) := by
      have a1 := Int.emod_add_mul_ediv x (2 ^ (8 * i) * 256)
      have a2 := Int.emod_add_mul_ediv x (2 ^ (8 * i))
      have a3 := Int.emod_add_mul_ediv (x / 2 ^ (8 * i)) 256
      have a4 : x / (2 ^ (8 * i) * 256) = x / 2 ^ (8 * i) / 256 := (Int.ediv_ediv_of_nonneg hp).symm
      rw [a4] at a1
      generalize x / 2 ^ (8 * i) = q at *
      generalize (2 : Int) ^ (8 * i) = P at *
      have a5 : P * q = P * (q % 256) + P * 256 * (q / 256) := by
        conv => lhs; rw [← a3]
        rw [Int.mul_add, Int.mul_assoc]
      omega
    rw [h3, Int.mul_comm (x / 2 ^ (8 * i) % 256)]
    rfl
/-- a cell -/
def Cell6 (x : Int) : Prop := -9223372036854775808 ≤ x ∧ x < 9223372036854775808
theorem getF_put (bs : List Int) (p : Nat) (x : Int) (h : p + 8 ≤ bs.length) (hx : Cell6 x) : getF (putF bs p x 8) p = x := by
  unfold getF
  rw [orF_nat _ p (fun j => (x / 2 ^ (8 * j) % 256).toNat) 8 (by decide) (fun j hj => ?_)]
  · rw [natF_div x 8]
    obtain ⟨h1, h2⟩ := hx
    show wrap64 (x % 2 ^ 64) = x
    unfold wrap64
    omega
  · have h2 : 0 ≤ x / 2 ^ (8 * j) % 256 := Int.emod_nonneg _ (by decide)
    have h3 : x / 2 ^ (8 * j) % 256 < 256 := Int.emod_lt_of_pos _ (by decide)
    rw [putF_get bs p x 8 h, if_pos (by omega), show p + j - p = j by omega]
    show _ = (((x / 2 ^ (8 * j) % 256).toNat : Nat) : Int) ∧ _
    generalize x / 2 ^ (8 * j) % 256 = y at *
    show y = (y.toNat : Int) ∧ y.toNat < 256
    omega
theorem orF_congr {cs bs : List Int} {p : Nat} : ∀ i, (∀ j, j < i → cs.getD (p + j) 0 = bs.getD (p + j) 0) → orF cs p i = orF bs p i
  | 0, _ => rfl
  | i + 1, h => by rw [orF, orF, orF_congr i (fun j hj => h j (by omega)), h i (by omega)]
theorem getF_far (bs : List Int) (p q : Nat) (x : Int) (h : p + 8 ≤ bs.length) (hq : q + 8 ≤ p ∨ p + 8 ≤ q) : getF (putF bs p x 8) q = getF bs q :=
  orF_congr 8 (fun j hj => by rw [putF_get bs p x 8 h, if_neg (by omega)])
theorem filL_get (bs : List Int) (p : Nat) (c : Int) : ∀ i, p + i ≤ bs.length → ∀ q, (filL bs p c i).getD q 0 = if p ≤ q ∧ q < p + i then c else bs.getD q 0
  | 0, _, q => by rw [filL, if_neg (by omega)]
  | i + 1, h, q => by
    rw [filL, getDi_set _ _ _ _ (by rw [filL_len]; omega), filL_get bs p c i (by omega) q]
    by_cases h1 : p + i = q
    · rw [if_pos h1, if_pos (by omega)]
    · rw [if_neg h1]
      by_cases h2 : p ≤ q ∧ q < p + i
      · rw [if_pos h2, if_pos (by omega)]
      · rw [if_neg h2, if_neg (by omega)]
theorem getF_fil (bs : List Int) (p : Nat) (c : Nat) (h : p + 8 ≤ bs.length) (hc : c < 256) : getF (filL bs p c 8) p = wrap64 ((c : Int) * 72340172838076673) := by
  unfold getF
  rw [orF_nat _ p (fun _ => c) 8 (by decide) (fun j hj => ⟨by rw [filL_get bs p c 8 h, if_pos (by omega)], hc⟩)]
  simp only [natF]
  congr 1
  omega
/-- eight at a time, upwards -/
theorem down8 (y : Int) (hy : Cell6 y) : bits .andNot .i64 y 7 = y - y % 8 := by
  have h7 : (BitVec.ofInt 64 7) = 7#64 := by decide
  have key : (BitVec.ofInt 64 y &&& ~~~BitVec.ofInt 64 7).toNat = (y % 18446744073709551616).toNat / 8 * 8 := by
    rw [h7, BitVec.toNat_and, BitVec.toNat_ofInt]
    rw [show (~~~7#64).toNat = 18446744073709551608 from by decide]
    rw [nat_hi64_3]
    have : ((y % ((2 ^ 64 : Nat) : Int)).toNat) = (y % 18446744073709551616).toNat := rfl
    rw [this]
    omega
  show IntKind.i64.wrap ((BitVec.ofInt 64 y &&& ~~~BitVec.ofInt 64 7).toNat : Nat) = _
  rw [key, IntKind.wrap_i64]
  obtain ⟨h1, h2⟩ := hy
  omega
end Go.Proofs.YtkbchpaofmlhgaaGreatDoor
