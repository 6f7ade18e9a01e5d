/- The document's rounding: what of it is exact, in plain numbers. -/
import Derived.Test.YtibifcchmccknaaDoorReal1
namespace Go.Proofs.YtibifcchmccknaaDoor
open Go.RowKit

/-- what cut answers: a cell; and the float itself, if nothing is lost -/
def CutIs (neg : Bool) (N : Nat) (e v : Int) : Prop :=
  -9223372036854775808 ≤ v ∧ v ≤ 9223372036854775807 ∧ ∀ r i : Nat, r < 9218868437227405312 → N = Fl.M r * 2 ^ (i + 1) → e = (Fl.E r : Int) - 1075 - i → v = cellOf (Ieee.double.word neg r)
def RoundIs (neg : Bool) (m : Nat) (e v : Int) : Prop :=
  -9223372036854775808 ≤ v ∧ v ≤ 9223372036854775807 ∧ ∀ r t s : Nat, r < 9218868437227405312 → m * 2 ^ t = Fl.Nv r * 2 ^ s → (t : Int) - s = e + 1074 → v = cellOf (Ieee.double.word neg r)

theorem round_of_cut (neg : Bool) (m k : Nat) (e v : Int) (hN : 2 ^ 124 ≤ m * 2 ^ k) (h : CutIs neg (m * 2 ^ k) (e - k) v) : RoundIs neg m e v := by
  refine ⟨h.1, h.2.1, fun r t s hr he hts => ?_⟩
  have hM := Fl.M_lt r
  have he2 : m * 2 ^ k * 2 ^ t = Fl.M r * 2 ^ (Fl.E r + s + k) := by
    rw [Nat.mul_right_comm, he]
    unfold Fl.Nv
    rw [Nat.pow_add, Nat.pow_add, Nat.mul_assoc, Nat.mul_assoc, Nat.mul_assoc]
  rcases Nat.lt_or_ge t (Fl.E r + s + k) with hlt | hge
  · obtain ⟨i, hi⟩ : ∃ i, Fl.E r + s + k = i + 1 + t := ⟨Fl.E r + s + k - t - 1, by omega⟩
    rw [hi, Nat.pow_add 2 (i + 1) t, ← Nat.mul_assoc] at he2
    exact h.2.2 r i hr (Nat.eq_of_mul_eq_mul_right (Nat.two_pow_pos t) he2) (by omega)
  · obtain ⟨j, hj⟩ : ∃ j, t = j + (Fl.E r + s + k) := ⟨t - (Fl.E r + s + k), by omega⟩
    rw [hj, Nat.pow_add, ← Nat.mul_assoc] at he2
    have he3 := Nat.eq_of_mul_eq_mul_right (Nat.two_pow_pos _) he2
    have : m * 2 ^ k ≤ m * 2 ^ k * 2 ^ j := Nat.le_mul_of_pos_right _ (Nat.two_pow_pos j)
    have h124 : (2 : Nat) ^ 124 = 21267647932558653966460912964485513216 := by decide
    omega

/-- nothing was lost yet -/
def Kept (N0 : Nat) (e0 : Int) (N : Nat) (e : Int) (more : Bool) : Prop :=
  ∀ r i : Nat, r < 9218868437227405312 → N0 = Fl.M r * 2 ^ (i + 1) → e0 = (Fl.E r : Int) - 1075 - i → more = false ∧ ∃ j : Nat, N = Fl.M r * 2 ^ (j + 1) ∧ e = (Fl.E r : Int) - 1075 - j
theorem Kept.start (N : Nat) (e : Int) : Kept N e N e false := fun _ i _ h1 h2 => ⟨rfl, i, h1, h2⟩
theorem Kept.step {N0 N : Nat} {e0 e : Int} {more : Bool} (h : Kept N0 e0 N e more) (hc : 18014398509481984 ≤ N ∨ e < -1075) : Kept N0 e0 (N / 2) (e + 1) (more || decide (N % 2 = 1)) := by
  intro r i hr h1 h2
  obtain ⟨hm, j, hN, he⟩ := h r i hr h1 h2
  have hM := Fl.M_lt r
  rcases j with _ | j
  · rw [Nat.zero_add, Nat.pow_one] at hN
    exfalso
    omega
  · rw [Nat.pow_succ, ← Nat.mul_assoc] at hN
    refine ⟨by rw [hm, Bool.false_or, decide_eq_false_iff_not]; omega, j, by omega, by omega⟩
/-- at the end of the halving -/
def Fin2 (N0 : Nat) (e0 : Int) (N : Nat) (e : Int) (more : Bool) : Prop :=
  ∀ r i : Nat, r < 9218868437227405312 → N0 = Fl.M r * 2 ^ (i + 1) → e0 = (Fl.E r : Int) - 1075 - i → more = false ∧ N = 2 * Fl.M r ∧ e = (Fl.E r : Int) - 1075
theorem Kept.last {N0 N : Nat} {e0 e : Int} {more : Bool} (h : Kept N0 e0 N e more) (h1 : N < 18014398509481984) (h2 : -1075 ≤ e) : Fin2 N0 e0 N e more := by
  intro r i hr g1 g2
  obtain ⟨hm, j, hN, he⟩ := h r i hr g1 g2
  rcases j with _ | j
  · rw [Nat.zero_add, Nat.pow_one] at hN
    exact ⟨hm, by omega, by omega⟩
  · exfalso
    have hE : 0 < Fl.E r := by omega
    have hM := Fl.E_pos hE
    rw [Nat.pow_succ, Nat.pow_succ, ← Nat.mul_assoc, ← Nat.mul_assoc] at hN
    have : Fl.M r ≤ Fl.M r * 2 ^ j := Nat.le_mul_of_pos_right _ (Nat.two_pow_pos j)
    omega
/-- a mantissa and an exponent, behind the rounding -/
def Fin1 (N0 : Nat) (e0 : Int) (m : Nat) (e : Int) : Prop :=
  ∀ r i : Nat, r < 9218868437227405312 → N0 = Fl.M r * 2 ^ (i + 1) → e0 = (Fl.E r : Int) - 1075 - i → m = Fl.M r ∧ e = (Fl.E r : Int) - 1074
theorem Fin2.half {N0 N : Nat} {e0 e : Int} {more : Bool} (h : Fin2 N0 e0 N e more) : Fin1 N0 e0 (N / 2) (e + 1) := by
  intro r i hr g1 g2
  obtain ⟨hm, hN, he⟩ := h r i hr g1 g2
  exact ⟨by omega, by omega⟩
theorem Fin2.up {N0 N : Nat} {e0 e : Int} {more : Bool} (h : Fin2 N0 e0 N e more) (hc : N % 2 = 1) (m : Nat) (x : Int) : Fin1 N0 e0 m x := by
  intro r i hr g1 g2
  obtain ⟨hm, hN, he⟩ := h r i hr g1 g2
  exfalso
  omega
theorem Fin1.big {N0 m : Nat} {e0 e : Int} (h : Fin1 N0 e0 m e) (hc : 9007199254740992 ≤ m) (m2 : Nat) (x : Int) : Fin1 N0 e0 m2 x := by
  intro r i hr g1 g2
  obtain ⟨hm, he⟩ := h r i hr g1 g2
  have hM := Fl.M_lt r
  exfalso
  omega
theorem word_bounds (neg : Bool) (x : Nat) (h : x < 9223372036854775808) : -9223372036854775808 ≤ cellOf (Ieee.double.word neg x) ∧ cellOf (Ieee.double.word neg x) ≤ 9223372036854775807 := by
  unfold cellOf Ieee.Format.word
  rw [Fl.c_sign]
  cases neg <;> simp <;> split <;> omega
theorem Fin1.inf {N0 m : Nat} {e0 e : Int} (neg : Bool) (h : Fin1 N0 e0 m e) (hc : 971 < e) : CutIs neg N0 e0 (cellOf (Ieee.double.word neg 9218868437227405312)) := by
  obtain ⟨b0, b1⟩ := word_bounds neg 9218868437227405312 (by omega)
  refine ⟨b0, b1, fun r i hr g1 g2 => ?_⟩
  obtain ⟨hm, he⟩ := h r i hr g1 g2
  have : Fl.E r ≤ 2045 := by unfold Fl.E; split <;> omega
  exfalso
  omega
theorem Fin1.low {N0 m : Nat} {e0 e : Int} (neg : Bool) (h : Fin1 N0 e0 m e) (hc : m < 4503599627370496) : CutIs neg N0 e0 (cellOf (Ieee.double.word neg m)) := by
  obtain ⟨b0, b1⟩ := word_bounds neg m (by omega)
  refine ⟨b0, b1, fun r i hr g1 g2 => ?_⟩
  obtain ⟨hm, he⟩ := h r i hr g1 g2
  have hE : Fl.E r = 0 := by
    rcases Nat.eq_zero_or_pos (Fl.E r) with h0 | h0
    · exact h0
    · have := Fl.E_pos h0
      omega
  have := Fl.EM r
  rw [hE] at this
  rw [show m = r by omega]
theorem Fin1.norm {N0 m : Nat} {e0 e : Int} (neg : Bool) (h : Fin1 N0 e0 m e) (h0 : 4503599627370496 ≤ m) (h1 : m < 9007199254740992) (h2 : -1074 ≤ e) (h3 : e ≤ 971) (x : Nat) (hx : (x : Int) = (e + 1075) * 4503599627370496 + m - 4503599627370496) : x < 9223372036854775808 ∧ CutIs neg N0 e0 (cellOf (Ieee.double.word neg x)) := by
  have hlt : x < 9223372036854775808 := by omega
  obtain ⟨b0, b1⟩ := word_bounds neg x hlt
  refine ⟨hlt, b0, b1, fun r i hr g1 g2 => ?_⟩
  obtain ⟨hm, he⟩ := h r i hr g1 g2
  have := Fl.EM r
  rw [show x = r by omega]
end Go.Proofs.YtibifcchmccknaaDoor
