/- Both readings of digits: the program's whole, the document's whole. -/
import Derived.Test.YtibifcchmccknaaDoorRTDigit
import Derived.Test.YtibifcchmccknaaDoorNumAny3
namespace Go.Proofs.YtibifcchmccknaaDoor
open Go.RowKit

/-- what whole tells of a text: whether it is digits, one to so many -/
def wholeB (l : List UInt8) (many : Nat) : Bool := decide (1 ≤ l.length ∧ l.length ≤ many ∧ (accN 0 l).2 = 0)

theorem acc_left : ∀ (l : List UInt8) (N : Nat), (accN N l).2 = 0 → ∀ c ∈ l, 48 ≤ c.toNat ∧ c.toNat ≤ 57
  | [], _, _, c, hc => by cases hc
  | a :: r, N, h, c, hc => by
    unfold accN at h
    split at h
    · rename_i ha
      rcases List.mem_cons.1 hc with rfl | hc
      · exact ha
      · exact acc_left r _ h c hc
    · simp at h
theorem parse_acc : ∀ (l : List UInt8) (N u : Nat), Lib.parseUint10 N l = .ok u → accN N l = (u, 0)
  | [], N, u, h => by
    simp only [Lib.parseUint10] at h
    injection h with h
    rw [accN, h]
  | c :: r, N, u, h => by
    simp only [Lib.parseUint10] at h
    split at h
    · rename_i hc
      split at h
      · cases h
      · split at h
        · cases h
        · rename_i h1 h2
          unfold accN
          rw [if_pos hc, Nat.mod_eq_of_lt (by omega)]
          exact parse_acc r _ u h
    · cases h
theorem acc_parse : ∀ (l : List UInt8) (N : Nat), (accN N l).2 = 0 → (N + 1) * 10 ^ l.length ≤ 100000000000000000 → ∃ u, u < 100000000000000000 ∧ Lib.parseUint10 N l = .ok u
  | [], N, _, h => ⟨N, by simp at h; omega, rfl⟩
  | c :: r, N, h0, h => by
    have hc := acc_left (c :: r) N h0 c (by simp)
    unfold accN at h0
    rw [if_pos hc] at h0
    rw [List.length_cons, Nat.pow_succ, Nat.mul_comm (10 ^ r.length) 10, ← Nat.mul_assoc] at h
    have hp : 1 ≤ 10 ^ r.length := Nat.pow_pos (by decide)
    have hN : (N + 1) * 10 ≤ 100000000000000000 := Nat.le_trans (Nat.le_mul_of_pos_right _ hp) h
    rw [Nat.mod_eq_of_lt (by omega)] at h0
    have h2 : (N * 10 + (c.toNat - 48) + 1) * 10 ^ r.length ≤ 100000000000000000 := Nat.le_trans (Nat.mul_le_mul_right _ (by omega)) h
    obtain ⟨u, hu, hp2⟩ := acc_parse r _ h0 h2
    refine ⟨u, hu, ?_⟩
    simp only [Lib.parseUint10]
    rw [if_pos hc, if_neg (by omega), if_neg (by omega)]
    exact hp2
theorem acc_lt (l : List UInt8) (many : Nat) (hm : many ≤ 16) (h : wholeB l many = true) : (accN 0 l).1 < 100000000000000000 := by
  obtain ⟨_, h2, h3⟩ := of_decide_eq_true h
  obtain ⟨u, hu, hp⟩ := acc_parse l 0 h3 (by
    have : 10 ^ l.length ≤ 10 ^ 16 := Nat.pow_le_pow_right (by decide) (by omega)
    have h16 : (10 : Nat) ^ 16 = 10000000000000000 := by decide
    omega)
  rw [parse_acc l 0 u hp]
  exact hu
/-- atoi and the digits -/
theorem atoi_whole (l : List UInt8) (many : Nat) (hm : many ≤ 16) (h : wholeB l many = true) : Lib.atoiAll l = .ok (((accN 0 l).1 : Nat) : Int) := by
  obtain ⟨h1, h2, h3⟩ := of_decide_eq_true h
  obtain ⟨u, hu, hp⟩ := acc_parse l 0 h3 (by
    have : 10 ^ l.length ≤ 10 ^ 16 := Nat.pow_le_pow_right (by decide) (by omega)
    have h16 : (10 : Nat) ^ 16 = 10000000000000000 := by decide
    omega)
  rw [parse_acc l 0 u hp]
  cases l with
  | nil => simp at h1
  | cons c r =>
    have hc := acc_left (c :: r) 0 h3 c (by simp)
    have n0 : ¬ c.toNat = 43 := by omega
    have n1 : ¬ c.toNat = 45 := by omega
    unfold Lib.atoiAll
    simp only [n0, n1, or_self, Lib.parseMag, reduceCtorEq, if_false, hp, not_false_eq_true, true_and, false_and]
    rw [if_neg (by omega)]
theorem whole_atoi (l : List UInt8) (many : Nat) (v : Int) (c : UInt8) (hl : l.length ≤ many) (hc : l.head? = some c) (hd : 48 ≤ c.toNat ∧ c.toNat ≤ 57) (h : Lib.atoiAll l = .ok v) : wholeB l many = true ∧ v = (((accN 0 l).1 : Nat) : Int) := by
  cases l with
  | nil => simp at hc
  | cons a r =>
    obtain rfl : a = c := by simpa using hc
    have n0 : ¬ a.toNat = 43 := by omega
    have n1 : ¬ a.toNat = 45 := by omega
    unfold Lib.atoiAll at h
    simp only [n0, n1, or_self, Lib.parseMag, reduceCtorEq, if_false, not_false_eq_true, true_and, false_and] at h
    split at h
    · cases h
    · cases h
    · rename_i u hu
      split at h
      · cases h
      · injection h with h
        have := parse_acc _ 0 u hu
        rw [this]
        refine ⟨decide_eq_true ⟨by simp, hl, by rw [this]⟩, h.symm⟩
end Go.Proofs.YtibifcchmccknaaDoor
