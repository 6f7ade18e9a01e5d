/- Doubles, fourth part: any cell is rounded to a number not far from it; what is left over of a cut is exact; quiet ones. Plain mathematics, no program. -/
import Derived.Test.YtibifcchmccknaaDoorFloat3
namespace Go.Proofs.YtibifcchmccknaaDoor.Fl
open Ieee

/-- rounded to even: not farther than a half -/
theorem cut_near (neg : Bool) (n d : Nat) (hd : d ≤ n.log2 + 2) : 2 * (Toward.even.cut neg n d * 2 ^ d) ≤ 2 * n + 2 ^ d ∧ 2 * n ≤ 2 * (Toward.even.cut neg n d * 2 ^ d) + 2 ^ d := by
  unfold Toward.cut
  simp only [Nat.one_shiftLeft, Nat.min_eq_left hd]
  have hp := Nat.two_pow_pos d
  generalize 2 ^ d = g at *
  have h1 := Nat.div_add_mod n g
  have h2 := Nat.mod_lt n hp
  generalize hl : n / g = l at *
  generalize hr : n % g = r at *
  have h3 : g * l = l * g := Nat.mul_comm _ _
  by_cases hm : (decide (g < 2 * r) || g == 2 * r && l % 2 == 1) = true
  · rw [hm]
    simp only [Bool.toNat_true, Nat.add_mul, Nat.one_mul]
    simp only [Bool.or_eq_true, decide_eq_true_eq, Bool.and_eq_true, beq_iff_eq] at hm
    omega
  · rw [Bool.eq_false_iff.2 hm]
    simp only [Bool.toNat_false, Nat.add_zero]
    simp only [Bool.or_eq_true, decide_eq_true_eq, Bool.and_eq_true, beq_iff_eq, not_or, not_and] at hm
    have : 2 * r ≤ g := by omega
    omega

/-- a great cell as a real number: whole, and not farther than 512 -/
theorem near_spec (neg : Bool) (n : Nat) (h0 : 9007199254740992 ≤ n) (h1 : n ≤ 9223372036854775808) : ∃ q R, q < 9218868437227405312 ∧ Nv q = R * U ∧ double.write (.number neg n 0) = double.word neg q ∧ R ≤ n + 512 ∧ n ≤ R + 512 ∧ R ≤ 9223372036854775808 := by
  by_cases hmax : n = 9223372036854775808
  · subst hmax
    refine ⟨4890909195324358656, 9223372036854775808, by omega, ?_, ?_, by omega, by omega, by omega⟩
    · have e1 : M 4890909195324358656 = 4503599627370496 := by decide
      have e2 : E 4890909195324358656 = 1085 := by decide
      rw [Nv, e1, e2, U_eq, show 1085 = 11 + B by rw [B_eq], Nat.pow_add, ← Nat.mul_assoc]
    · cases neg <;> decide +kernel
  · have hn : n ≠ 0 := by omega
    have hlo : 53 ≤ n.log2 := (Nat.le_log2 hn).2 (by simpa using h0)
    have h63 : n < 9223372036854775808 := by omega
    have hhi : n.log2 < 63 := (Nat.log2_lt hn).2 (by simpa using h63)
    obtain ⟨d, hd⟩ : ∃ d, n.log2 = 52 + d := ⟨n.log2 - 52, by omega⟩
    obtain ⟨k, hk⟩ : ∃ k, Toward.even.cut neg n d = k := ⟨_, rfl⟩
    have hnear := cut_near neg n d (by omega)
    rw [hk] at hnear
    -- its digits
    have hp52 : 2 ^ (52 + d) ≤ n := by rw [← hd]; exact Nat.log2_self_le hn
    have hp53 : n < 2 ^ (53 + d) := by have := nat_pow_log n hn; rw [hd, show 52 + d + 1 = 53 + d by omega] at this; exact this
    have hg : 2 ^ d ≤ 1024 := by
      calc 2 ^ d ≤ 2 ^ 10 := Nat.pow_le_pow_right (by omega) (by omega)
        _ = 1024 := rfl
    have hgp := Nat.two_pow_pos d
    have hk1 : 4503599627370496 ≤ k := by
      rw [Nat.pow_add] at hp52
      have h4 : (2 : Nat) ^ 52 = 4503599627370496 := by decide
      rw [h4] at hp52
      rcases Nat.lt_or_ge k 4503599627370496 with h | h
      · exfalso
        have h5 : k * 2 ^ d ≤ 4503599627370495 * 2 ^ d := Nat.mul_le_mul_right _ (by omega)
        have h6 : 4503599627370496 * 2 ^ d = 4503599627370495 * 2 ^ d + 2 ^ d := by omega
        omega
      · exact h
    have hk2 : k ≤ 9007199254740992 := by
      rw [Nat.pow_add] at hp53
      have h4 : (2 : Nat) ^ 53 = 9007199254740992 := by decide
      rw [h4] at hp53
      rcases Nat.lt_or_ge 9007199254740992 k with h | h
      · exfalso
        have h5 : 9007199254740993 * 2 ^ d ≤ k * 2 ^ d := Nat.mul_le_mul_right _ (by omega)
        have h6 : 9007199254740993 * 2 ^ d = 9007199254740992 * 2 ^ d + 2 ^ d := by omega
        omega
      · exact h
    have hd10 : d ≤ 10 := by omega
    have hw : double.write (.number neg n 0) = double.word neg ((d + 1074) * 4503599627370496 + k) := by
      simp only [Format.write]
      unfold Format.nearest
      rw [if_neg hn]
      have hlast : max (0 + (n.log2 : Int) - (double.fractionBits : Int)) double.leastPlace = (d : Int) := by
        rw [c_place, show (double.fractionBits : Int) = 52 from rfl]; omega
      simp only [hlast]
      rw [show ((0 : Int) - (d : Int)).toNat = 0 by omega, show ((d : Int) - 0).toNat = d by omega, Nat.shiftLeft_zero, hk, c_place, show ((d : Int) - -1074).toNat = d + 1074 by omega, c_binade, c_inf, Nat.min_eq_left (by omega)]
    have hv : Nv ((d + 1074) * 4503599627370496 + k) = k * 2 ^ d * U := by
      rcases Nat.lt_or_ge k 9007199254740992 with h | h
      · have e1 : E ((d + 1074) * 4503599627370496 + k) = d + 1074 := by unfold E; rw [if_neg (by omega)]; omega
        have e2 : M ((d + 1074) * 4503599627370496 + k) = k := by unfold M; rw [if_neg (by omega)]; omega
        rw [Nv, e1, e2, U_eq, Nat.mul_assoc, ← Nat.pow_add, B_eq]
      · have hk3 : k = 9007199254740992 := by omega
        subst hk3
        have e1 : E ((d + 1074) * 4503599627370496 + 9007199254740992) = d + 1075 := by unfold E; rw [if_neg (by omega)]; omega
        have e2 : M ((d + 1074) * 4503599627370496 + 9007199254740992) = 4503599627370496 := by unfold M; rw [if_neg (by omega)]; omega
        rw [Nv, e1, e2, U_eq, Nat.mul_assoc, ← Nat.pow_add, B_eq, show d + 1075 = 1 + (d + 1074) by omega, Nat.pow_add, ← Nat.mul_assoc]
    refine ⟨_, k * 2 ^ d, by omega, hv, hw, by omega, by omega, ?_⟩
    calc k * 2 ^ d ≤ 9007199254740992 * 2 ^ 10 := Nat.mul_le_mul hk2 (Nat.pow_le_pow_right (by omega) hd10)
      _ = 9223372036854775808 := by decide

/-- what is left over of a cut is a rung's -/
theorem rest_rung {r : Nat} (hr : r < 9218868437227405312) : ∃ q, q < 9218868437227405312 ∧ Nv q = Nv r % U := by
  have hE := E_le hr
  rcases Nat.lt_or_ge (E r) B with h | h
  · obtain ⟨k, hk⟩ : ∃ k, B = k + E r := ⟨B - E r, by omega⟩
    have e : Nv r % U = M r % 2 ^ k * 2 ^ E r := by rw [U_eq, hk, Nv, Nat.pow_add, Nat.mul_mod_mul_right]
    have hm : M r % 2 ^ k ≤ M r := Nat.mod_le _ _
    have hM := M_lt r
    obtain ⟨q, hq, hv⟩ := rung_of (M r % 2 ^ k) (E r) (by omega) (by
      by_cases h0 : M r % 2 ^ k = 0
      · exact .inl h0
      · have h53 : M r % 2 ^ k < 9007199254740992 := by omega
        have : (M r % 2 ^ k).log2 < 53 := (Nat.log2_lt h0).2 (by simpa using h53)
        have hB := B_eq
        exact .inr (by omega))
    exact ⟨q, hq, by rw [hv, e]⟩
  · exact ⟨0, by omega, by rw [Nv_whole h]; decide⟩

theorem quiet_pos (t : Nat) : 0 < double.quiet t % 4503599627370496 := by
  unfold Format.quiet
  rw [show 2 ^ (double.fractionBits - 1) = 2 ^ 51 from rfl, show 4503599627370496 = 2 ^ 52 from rfl]
  have h : ((t ||| 2 ^ 51) % 2 ^ 52).testBit 51 = true := by
    rw [Nat.testBit_mod_two_pow, Nat.testBit_or, Nat.testBit_two_pow_self]
    simp
  rcases Nat.eq_zero_or_pos ((t ||| 2 ^ 51) % 2 ^ 52) with h0 | h0
  · rw [h0, Nat.zero_testBit] at h
    cases h
  · exact h0
end Go.Proofs.YtibifcchmccknaaDoor.Fl
