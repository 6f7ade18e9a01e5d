/- Doubles, more: what is rounded down, what is whole, what an integer is made of. Plain mathematics, no program. -/
import Derived.Test.YtibifcchmccknaaDoorFloat
namespace Go.Proofs.YtibifcchmccknaaDoor.Fl
open Ieee

theorem nat_pow_log (n : Nat) (h : n ≠ 0) : n < 2 ^ (n.log2 + 1) := (Nat.log2_lt h).1 (Nat.lt_succ_self _)
theorem div_gap (n d : Nat) : n / (1 <<< min d (n.log2 + 2)) = n / 2 ^ d := by
  rw [Nat.one_shiftLeft]
  by_cases hd : d ≤ n.log2 + 2
  · rw [Nat.min_eq_left hd]
  · rw [Nat.min_eq_right (by omega)]
    by_cases h0 : n = 0
    · subst h0; simp
    · have h1 := nat_pow_log n h0
      have h2 : (2 : Nat) ^ (n.log2 + 1) ≤ 2 ^ (n.log2 + 2) := Nat.pow_le_pow_right (by omega) (by omega)
      have h3 : (2 : Nat) ^ (n.log2 + 1) ≤ 2 ^ d := Nat.pow_le_pow_right (by omega) (by omega)
      rw [Nat.div_eq_of_lt (by omega), Nat.div_eq_of_lt (by omega)]
theorem cut_down (n d : Nat) : Toward.down.cut false n d = n / 2 ^ d := by
  unfold Toward.cut
  simp only [div_gap, Bool.false_and, Bool.toNat_false, Nat.add_zero]
theorem cut_nil (neg : Bool) (n d : Nat) : Toward.zero.cut neg n d = n / 2 ^ d := by
  unfold Toward.cut
  simp only [div_gap, Bool.toNat_false, Nat.add_zero]

/-- the place of the unit, 1074, and the unit, under names that no tactic looks through -/
@[irreducible] def B : Nat := 1074
theorem B_eq : B = 1074 := by unfold B; rfl
@[irreducible] def U : Nat := 2 ^ B
theorem U_eq : U = 2 ^ B := by unfold U; rfl
theorem U_pos : 0 < U := by rw [U_eq]; exact Nat.two_pow_pos _
/-- so many whole units -/
def Iv (r : Nat) : Nat := Nv r / U
theorem whole_part (m e B : Nat) : (m <<< ((-(B : Int) + (e : Int)).toNat)) / 2 ^ (-(-(B : Int) + (e : Int))).toNat = m * 2 ^ e / 2 ^ B := by
  rw [Nat.shiftLeft_eq]
  by_cases h : B ≤ e
  · obtain ⟨k, hk⟩ : ∃ k, e = B + k := ⟨e - B, by omega⟩
    subst hk
    have e1 : (-(B : Int) + ((B + k : Nat) : Int)).toNat = k := by omega
    have e2 : (-(-(B : Int) + ((B + k : Nat) : Int))).toNat = 0 := by omega
    rw [e1, e2, Nat.pow_zero, Nat.div_one, Nat.pow_add, Nat.mul_comm (2 ^ B), ← Nat.mul_assoc, Nat.mul_div_cancel _ (Nat.two_pow_pos B)]
  · obtain ⟨k, hk⟩ : ∃ k, B = k + e := ⟨B - e, by omega⟩
    subst hk
    have e1 : (-((k + e : Nat) : Int) + (e : Int)).toNat = 0 := by omega
    have e2 : (-(-((k + e : Nat) : Int) + (e : Int))).toNat = k := by omega
    rw [e1, e2, Nat.pow_zero, Nat.mul_one, Nat.pow_add]
    exact (Nat.mul_div_mul_right _ _ (Nat.two_pow_pos e)).symm
theorem integral_down {r : Nat} (hr : r < 9218868437227405312) : (double.read (double.word false r)).integral .down = .number false (Iv r) 0 := by
  rw [read_word false hr]
  simp only [Datum.integral, cut_down]
  congr 1
  rw [Iv, U_eq, Nv, ← whole_part, B_eq]
  rfl
theorem toInt_fin {w : Nat} (h : fin w) : (double.read w).toInt .zero = some (if sg w then -(Iv (rg w) : Int) else (Iv (rg w) : Int)) := by
  rw [read_fin h]
  simp only [Datum.toInt, Datum.integral, cut_nil]
  rw [show (M (rg w) <<< ((-1074 + (E (rg w) : Int)).toNat)) / 2 ^ (-(-1074 + (E (rg w) : Int))).toNat = Iv (rg w) by rw [Iv, U_eq, Nv, ← whole_part, B_eq]; rfl]
  unfold signed
  rw [Nat.shiftLeft_zero]

theorem E_le {r : Nat} (h : r < 9218868437227405312) : E r ≤ 2045 := by unfold E; split <;> omega
theorem log_M (r : Nat) : M r = 0 ∨ (M r).log2 ≤ 52 := by
  by_cases h0 : M r = 0
  · exact .inl h0
  · exact .inr (by have := (Nat.log2_lt (k := 53) h0).2 (by simpa using M_lt r); omega)
/-- a great enough exponent: it is whole -/
theorem Nv_whole {r : Nat} (h : B ≤ E r) : Nv r % U = 0 := by
  unfold Nv
  obtain ⟨k, hk⟩ : ∃ k, E r = B + k := ⟨E r - B, by omega⟩
  rw [hk, U_eq, Nat.pow_add, Nat.mul_comm (2 ^ B), ← Nat.mul_assoc, Nat.mul_mod_left]
theorem small_E {r : Nat} (h : Nv r % U ≠ 0) : E r < B := by
  rcases Nat.lt_or_ge (E r) B with h1 | h1
  · exact h1
  · exact absurd (Nv_whole h1) h
theorem Iv_small {r : Nat} (h : E r < B) : Iv r < 9007199254740992 := by
  unfold Iv Nv
  rw [U_eq, Nat.div_lt_iff_lt_mul (Nat.two_pow_pos _)]
  calc M r * 2 ^ E r < 9007199254740992 * 2 ^ E r := Nat.mul_lt_mul_of_pos_right (M_lt r) (Nat.two_pow_pos _)
    _ ≤ 9007199254740992 * 2 ^ B := Nat.mul_le_mul_left _ (Nat.pow_le_pow_right (by omega) (by omega))
theorem div_back (a b : Nat) (h : a % b = 0) : a / b * b = a := by
  have := Nat.div_add_mod a b
  rw [h, Nat.add_zero, Nat.mul_comm] at this
  exact this
/-- each number of units is a rung's, if it has 53 digits -/
theorem unit_rung (k : Nat) (hk : k < 9007199254740992) : ∃ q, q < 9218868437227405312 ∧ Nv q = k * U := by
  rw [U_eq]
  refine rung_of k B hk ?_
  by_cases h0 : k = 0
  · exact .inl h0
  · have : k.log2 < 53 := (Nat.log2_lt h0).2 (by simpa using hk)
    exact .inr (by rw [B_eq]; omega)
theorem floor_rung {r : Nat} (hr : r < 9218868437227405312) : ∃ q, q < 9218868437227405312 ∧ Nv q = Iv r * U := by
  by_cases h : Nv r % U = 0
  · exact ⟨r, hr, (div_back _ _ h).symm⟩
  · exact unit_rung _ (Iv_small (small_E h))
theorem write_unit (neg : Bool) {k q : Nat} (hq : q < 9218868437227405312) (h : Nv q = k * U) : double.write (.number neg k 0) = double.word neg q := by
  simp only [Format.write]
  refine nearest_of neg q hq k 0 0 (by omega) ?_
  rw [h, Nat.pow_zero, Nat.mul_one, U_eq, show ((0 : Int) + 1074 + (0 : Nat)).toNat = B by rw [B_eq]; rfl]

/-- WHAT IS ROUNDED DOWN, of a number that is not below 0 -/
theorem floor_word {r : Nat} (hr : r < 9218868437227405312) : ∃ q, q < 9218868437227405312 ∧ Nv q = Iv r * U ∧ double.write ((double.read (double.word false r)).integral .down) = double.word false q := by
  obtain ⟨q, hq, hv⟩ := floor_rung hr
  exact ⟨q, hq, hv, by rw [integral_down hr, write_unit false hq hv]⟩

/-- twice a number that is not whole -/
theorem double_rung {r : Nat} (h : E r < 2045) : ∃ q, q < 9218868437227405312 ∧ Nv q = 2 * Nv r := by
  obtain ⟨q, hq, hv⟩ := rung_of (M r) (E r + 1) (M_lt r) (by rcases log_M r with h1 | h1; exact .inl h1; exact .inr (by omega))
  exact ⟨q, hq, by rw [hv, Nv, Nat.pow_succ, ← Nat.mul_assoc, Nat.mul_comm]⟩
theorem half_rung {r : Nat} (hr : r < 9218868437227405312) (h : 0 < E r) : ∃ q, q < 9218868437227405312 ∧ Nv r = 2 * Nv q := by
  have := E_le hr
  obtain ⟨q, hq, hv⟩ := rung_of (M r) (E r - 1) (M_lt r) (by rcases log_M r with h1 | h1; exact .inl h1; exact .inr (by omega))
  refine ⟨q, hq, ?_⟩
  obtain ⟨k, hk⟩ : ∃ k, E r = k + 1 := ⟨E r - 1, by omega⟩
  rw [hv, Nv, hk, Nat.pow_succ, ← Nat.mul_assoc, Nat.mul_comm, Nat.add_sub_cancel]
/-- a number of a great many units has a great exponent -/
theorem big_E {r j : Nat} (h : 2 ^ (53 + j) ≤ Nv r) : j < E r := by
  rcases Nat.lt_or_ge j (E r) with h1 | h1
  · exact h1
  · have h2 : Nv r < 2 ^ (53 + j) := by
      unfold Nv
      calc M r * 2 ^ E r < 9007199254740992 * 2 ^ E r := Nat.mul_lt_mul_of_pos_right (M_lt r) (Nat.two_pow_pos _)
        _ ≤ 9007199254740992 * 2 ^ j := Nat.mul_le_mul_left _ (Nat.pow_le_pow_right (by omega) h1)
        _ = 2 ^ (53 + j) := by rw [Nat.pow_add]
    omega

theorem order_pos {r q : Nat} (hr : r < 9218868437227405312) (hq : q < 9218868437227405312) : double.order (double.word false r) (double.word false q) = some (compare (Nv r) (Nv q)) := by
  rw [order_fin (fin_word false hr) (fin_word false hq), Zv_pos hr, Zv_pos hq]
  congr 1
  rcases Nat.lt_trichotomy (Nv r) (Nv q) with h | h | h
  · rw [Int.compare_eq_lt.2 (by exact_mod_cast h), Nat.compare_eq_lt.2 h]
  · rw [h, Int.compare_eq_eq.2 rfl, Nat.compare_eq_eq.2 rfl]
  · rw [Int.compare_eq_gt.2 (by exact_mod_cast h), Nat.compare_eq_gt.2 h]
theorem word_false (r : Nat) : double.word false r = r := by simp [Format.word]

/-! ### order, of all that are numbers -/
theorem key_inf (s : Bool) : ∀ w : Nat, rg w = 9218868437227405312 → sg w = s → Zv w = if s then -(Nv 9218868437227405312 : Int) else (Nv 9218868437227405312 : Int) := by
  intro w h1 h2
  unfold Zv; rw [h1, h2]
theorem Nv_inf {r : Nat} (h : r < 9218868437227405312) : Nv r < Nv 9218868437227405312 := Nv_lt h
theorem Zv_bound {w : Nat} (h : fin w) : -(Nv 9218868437227405312 : Int) < Zv w ∧ Zv w < (Nv 9218868437227405312 : Int) := by
  have := Nv_inf h
  unfold Zv
  generalize Nv 9218868437227405312 = a at *
  generalize Nv (rg w) = b at *
  split <;> omega
theorem order_num {x y : Nat} (hx : rg x ≤ 9218868437227405312) (hy : rg y ≤ 9218868437227405312) : double.order x y = some (compare (Zv x) (Zv y)) := by
  by_cases h1 : rg x = 9218868437227405312
  · by_cases h2 : rg y = 9218868437227405312
    · unfold Format.order
      rw [read_inf h1, read_inf h2]
      simp only [Datum.order]
      have hp : (0 : Int) < Nv 9218868437227405312 := by have := Nv_lt (r := 0) (r' := 9218868437227405312) (by omega); exact_mod_cast (by omega : 0 < Nv 9218868437227405312)
      rw [key_inf (sg x) x h1 rfl, key_inf (sg y) y h2 rfl]
      generalize (Nv 9218868437227405312 : Int) = a at hp
      cases sg x <;> cases sg y
      · simp
      · simp only [Bool.toNat_true, Bool.toNat_false, if_true, if_false, Bool.false_eq_true]; rw [Int.compare_eq_gt.2 (by omega : a > -a)]; rfl
      · simp only [Bool.toNat_true, Bool.toNat_false, if_true, if_false, Bool.false_eq_true]; rw [Int.compare_eq_lt.2 (by omega : -a < a)]; rfl
      · simp
    · have hf : fin y := by unfold fin; omega
      have hb := Zv_bound hf
      unfold Format.order
      rw [read_inf h1, read_fin hf]
      simp only [Datum.order]
      rw [key_inf (sg x) x h1 rfl]
      generalize (Nv 9218868437227405312 : Int) = a at hb
      cases sg x
      · simp only [if_false, Bool.false_eq_true]; rw [Int.compare_eq_gt.2 (by omega)]
      · simp only [if_true]; rw [Int.compare_eq_lt.2 (by omega)]
  · have hf : fin x := by unfold fin; omega
    by_cases h2 : rg y = 9218868437227405312
    · have hb := Zv_bound hf
      unfold Format.order
      rw [read_inf h2, read_fin hf]
      simp only [Datum.order]
      rw [key_inf (sg y) y h2 rfl]
      generalize (Nv 9218868437227405312 : Int) = a at hb
      cases sg y
      · simp only [if_false, Bool.false_eq_true]; rw [Int.compare_eq_lt.2 (by omega)]
      · simp only [if_true]; rw [Int.compare_eq_gt.2 (by omega)]
    · exact order_fin hf (by unfold fin; omega)
theorem order_nan {x y : Nat} (h : 9218868437227405312 < rg x ∨ 9218868437227405312 < rg y) : double.order x y = none := by
  unfold Format.order
  rcases h with h | h
  · rw [read_nan h]; rfl
  · rw [read_nan h]; cases double.read x <;> rfl

end Go.Proofs.YtibifcchmccknaaDoor.Fl
