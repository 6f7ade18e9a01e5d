/- Number, at the texts that Text makes; the walk of RealBack. -/
import Derived.Test.YtibifcchmccknaaDoorReal10
namespace Go.Proofs.YtibifcchmccknaaDoor
open Go.RowKit

/-! ### the texts -/
def decL (m : Nat) : List UInt8 := Lib.decDigits m
theorem digitVal_of (u : Nat) (h : u < 10) : Lib.digitVal (UInt8.ofNat (48 + u)) = some u := by
  have : u = 0 ∨ u = 1 ∨ u = 2 ∨ u = 3 ∨ u = 4 ∨ u = 5 ∨ u = 6 ∨ u = 7 ∨ u = 8 ∨ u = 9 := by omega
  rcases this with rfl | rfl | rfl | rfl | rfl | rfl | rfl | rfl | rfl | rfl <;> rfl
theorem decFrom_append (l r : List UInt8) : ∀ a, Lib.decFrom a (l ++ r) = (Lib.decFrom a l).bind fun b => Lib.decFrom b r := by
  induction l with
  | nil => intro a; rfl
  | cons x t ih =>
    intro a
    simp only [List.cons_append, Lib.decFrom]
    cases Lib.digitVal x with
    | none => rfl
    | some d => exact ih _
theorem decFrom_dec (m : Nat) : Lib.decFrom 0 (Lib.decDigits m) = some m := by
  induction m using Nat.strongRecOn with
  | ind m ih =>
    rw [Lib.decDigits]
    split
    · rename_i h
      simp only [Lib.decFrom, digitVal_of m h]
      simp
    · rename_i h
      rw [decFrom_append, ih (m / 10) (by omega)]
      simp only [Option.bind_some, Lib.decFrom, digitVal_of (m % 10) (by omega)]
      congr 1
      omega
theorem dec_digit (m : Nat) : ∀ c ∈ Lib.decDigits m, 48 ≤ c.toNat ∧ c.toNat ≤ 57 := by
  induction m using Nat.strongRecOn with
  | ind m ih =>
    have key : ∀ u, u < 10 → 48 ≤ (UInt8.ofNat (48 + u)).toNat ∧ (UInt8.ofNat (48 + u)).toNat ≤ 57 := by
      intro u h
      have := Lib.digitVal_eq (digitVal_of u h)
      exact ⟨this.1, this.2.1⟩
    rw [Lib.decDigits]
    split
    · rename_i h
      intro c hc
      rw [List.mem_singleton.1 hc]
      exact key m h
    · intro c hc
      rcases List.mem_append.1 hc with h1 | h1
      · exact ih (m / 10) (by omega) c h1
      · rw [List.mem_singleton.1 h1]
        exact key _ (by omega)
theorem dec_ne (m : Nat) : Lib.decDigits m ≠ [] := by
  rw [Lib.decDigits]
  split
  · simp
  · simp
theorem atoi_dec (m : Nat) : Lib.atoi (Lib.decDigits m) = some (m : Int) := by
  cases h : Lib.decDigits m with
  | nil => exact absurd h (dec_ne m)
  | cons b r =>
    have hd := dec_digit m b (by rw [h]; simp)
    have hf := decFrom_dec m
    rw [h] at hf
    have n1 : (b == 45) = false := by
      rw [beq_eq_false_iff_ne]
      intro e
      rw [e] at hd
      exact absurd hd.1 (by decide)
    have n2 : (b == 43) = false := by
      rw [beq_eq_false_iff_ne]
      intro e
      rw [e] at hd
      exact absurd hd.1 (by decide)
    simp only [Lib.atoi, n1, n2, Lib.decNat, List.isEmpty_cons, Bool.false_eq_true, if_false, hf]
    rfl

theorem index_one (l r : List UInt8) (c : UInt8) (h : c ∉ l) : Lib.index (l ++ c :: r) [c] = (l.length : Int) := by
  induction l with
  | nil => simp [Lib.index, List.isPrefixOf]
  | cons b t ih =>
    have hb : (c == b) = false := by rw [beq_eq_false_iff_ne]; intro e; exact h (by rw [e]; simp)
    have ht := ih (fun hc => h (List.mem_cons_of_mem _ hc))
    simp only [List.cons_append, Lib.index, List.isPrefixOf, hb, Bool.false_and, ht]
    have : ((t.length : Int) == -1) = false := by rw [beq_eq_false_iff_ne]; omega
    rw [this]
    simp
theorem cut_one (l r : List UInt8) (c : UInt8) (h : c ∉ l) : Lib.cut (l ++ c :: r) [c] = (l, r, true) := by
  unfold Lib.cut
  rw [index_one l r c h, if_pos (by omega)]
  simp
theorem prefix_yes (l : List UInt8) (c : UInt8) : Lib.trimPrefix (c :: l) [c] = l ∧ Lib.hasPrefix (c :: l) [c] = true := by
  unfold Lib.trimPrefix Lib.hasPrefix
  simp [List.isPrefixOf]
theorem prefix_no (l : List UInt8) (c : UInt8) (h : ∀ b, l.head? = some b → b ≠ c) : Lib.trimPrefix l [c] = l ∧ Lib.hasPrefix l [c] = false := by
  unfold Lib.trimPrefix Lib.hasPrefix
  cases l with
  | nil => simp [List.isPrefixOf]
  | cons b t =>
    have := h b rfl
    have hb : (c == b) = false := by rw [beq_eq_false_iff_ne]; exact fun e => this e.symm
    simp [List.isPrefixOf, hb]

end Go.Proofs.YtibifcchmccknaaDoor
