/- A number's text in a base is that number, read (2). -/
import Derived.Test.YtgdmiodcfdcihaaGreatDoorNumLaw
namespace Go.Proofs.YtgdmiodcfdcihaaGreatDoor
open Go.RowKit

theorem accept_append (b : Int) : ∀ (l r : List UInt8) (p : Int × Int), (acceptP p b l).2 = 0 → acceptP p b (l ++ r) = acceptP (acceptP p b l).1 b r
  | [], r, p, _ => rfl
  | c :: l, r, p, h => by
    rw [List.cons_append, acceptP]
    rw [acceptP] at h
    by_cases hv : (valF c b).2 = true
    · rw [if_pos hv] at h
      rw [if_pos hv, accept_append b l r _ h]
      congr 1
      rw [acceptP, if_pos hv]
    · rw [if_neg hv] at h
      exact absurd h (by simp)

theorem place_dig : ∀ d, d < 36 → placeF (digC d) = (d : Int) := by decide +kernel
theorem val_dig (d b : Nat) (hd : d < b) (hb : b ≤ 36) : valF (digC d) (b : Int) = ((d : Int), true) := by
  unfold valF
  rw [place_dig d (by omega), if_pos (by omega)]

theorem accept_one (b d : Nat) (p : Int × Int) (hd : d < b) (hb : b ≤ 36) : acceptP p (b : Int) [digC d] = (stepP p b d, 0) := by
  rw [acceptP, val_dig d b hd hb, if_pos rfl]
  rfl

theorem pP_zero : ((0, 0) : Int × Int) = pP 0 := by
  unfold pP
  rw [show pl 0 = 0 by decide, show ph 0 = 0 by decide]
theorem accept_base (b : Nat) (hb0 : 2 ≤ b) (hb : b ≤ 36) (n : Nat) : n < 340282366920938463463374607431768211456 → acceptP (0, 0) (b : Int) (baseL b n) = (pP n, 0) := by
  rw [pP_zero]
  induction n using Nat.strongRecOn with
  | ind n ih =>
    intro hn
    by_cases h : n < b
    · rw [baseL_last b n h, accept_one b n _ h hb, step_pP 0 b n hb h (by omega), Nat.zero_mul, Nat.zero_add]
    · have hq : n / b < n := Nat.div_lt_self (by omega) (by omega)
      have ih' := ih (n / b) hq (by omega)
      have hmod : n % b < b := Nat.mod_lt _ (by omega)
      have hdm : n / b * b + n % b = n := by rw [Nat.mul_comm]; exact Nat.div_add_mod n b
      rw [baseL_more b n hb0 (by omega), accept_append _ _ _ _ (by rw [ih']), ih', accept_one b (n % b) _ hmod hb, step_pP (n / b) b (n % b) hb hmod (by omega), hdm]

/-- of which bytes a number's text is -/
theorem dig_plain : ∀ d, d < 36 → digC d ≠ 45 ∧ digC d ≠ 46 ∧ basesF (digC d).toNat = 0 := by decide +kernel
theorem base_plain (b : Nat) (hb0 : 2 ≤ b) (hb : b ≤ 36) (n : Nat) : ∀ c ∈ baseL b n, c ≠ 45 ∧ c ≠ 46 ∧ basesF c.toNat = 0 := by
  induction n using Nat.strongRecOn with
  | ind n ih =>
    intro c hc
    by_cases h : n < b
    · rw [baseL_last b n h, List.mem_singleton] at hc
      subst hc
      exact dig_plain n (by omega)
    · rw [baseL_more b n hb0 (by omega), List.mem_append, List.mem_singleton] at hc
      rcases hc with hc | rfl
      · exact ih (n / b) (Nat.div_lt_self (by omega) (by omega)) c hc
      · exact dig_plain (n % b) (by have := Nat.mod_lt n (show 0 < b by omega); omega)
theorem base_ne (b n : Nat) : baseL b n ≠ [] := by
  rw [baseL]
  split <;> simp

theorem suffix_yes (l : List UInt8) (c : UInt8) : Lib.trimSuffix (l ++ [c]) [c] = l ∧ Lib.hasSuffix (l ++ [c]) [c] = true := by
  have h : Lib.hasSuffix (l ++ [c]) [c] = true := by
    unfold Lib.hasSuffix
    rw [List.isSuffixOf_iff_suffix]
    exact List.suffix_append _ _
  refine ⟨?_, h⟩
  unfold Lib.trimSuffix
  rw [if_pos h]
  simp
theorem suffix_no (l : List UInt8) (c : UInt8) (h : c ∉ l) : Lib.trimSuffix l [c] = l ∧ Lib.hasSuffix l [c] = false := by
  have h2 : Lib.hasSuffix l [c] = false := by
    rw [Bool.eq_false_iff]
    intro hs
    unfold Lib.hasSuffix at hs
    rw [List.isSuffixOf_iff_suffix] at hs
    exact h (hs.subset (by simp))
  refine ⟨?_, h2⟩
  unfold Lib.trimSuffix
  rw [if_neg (by rw [h2]; simp)]

theorem neg_pP (m : Nat) (hm : m < 340282366920938463463374607431768211456) : negP (pP m) = pP ((340282366920938463463374607431768211456 - m) % 340282366920938463463374607431768211456) := by
  unfold negP pP
  have e1 : b64 (pl m) = m % 18446744073709551616 := b64_cell _ (by omega)
  have e2 : b64 (ph m) = m / 18446744073709551616 % 18446744073709551616 := b64_cell _ (by omega)
  simp only
  rw [e1, e2]
  rw [w_cell _ (by omega), w_cell _ (by omega)]
  unfold pl ph
  have k1 : (0 + 18446744073709551616 - m % 18446744073709551616 - 0) % 18446744073709551616 = (340282366920938463463374607431768211456 - m) % 340282366920938463463374607431768211456 % 18446744073709551616 := by omega
  have k2 : (0 + 18446744073709551616 - m / 18446744073709551616 % 18446744073709551616 - (if 0 < m % 18446744073709551616 + 0 then 1 else 0)) % 18446744073709551616 = (340282366920938463463374607431768211456 - m) % 340282366920938463463374607431768211456 / 18446744073709551616 % 18446744073709551616 := by
    split <;> omega
  rw [k1, k2]

/-- the digits of n behind a sign or none, ahead of a point or none -/
theorem tail_of (b : Nat) (hb0 : 2 ≤ b) (hb : b ≤ 36) (n : Nat) (hn : n < 340282366920938463463374607431768211456) (neg point : Bool) :
    numTail ((if neg then [45] else []) ++ baseL b n ++ (if point then [46] else [])) (b : Int) =
      if point then (if neg then negP (pP n) else pP n, 2) else (((if neg then negP (pP n) else pP n).1, 0), 1) := by
  have hp := base_plain b hb0 hb n
  have hne := base_ne b n
  have hac := accept_base b hb0 hb n hn
  have h45 : ∀ r, ∀ c, (baseL b n ++ r).head? = some c → c ≠ 45 := by
    intro r c hc
    cases hl : baseL b n with
    | nil => exact absurd hl hne
    | cons x t =>
      rw [hl] at hc hp
      have : x = c := by simpa using hc
      exact this ▸ (hp x (by simp)).1
  have h46 : (46 : UInt8) ∉ baseL b n := fun h => (hp 46 h).2.1 rfl
  cases neg <;> cases point
  all_goals unfold numTail
  · have h1 := prefix_no (baseL b n) 45 (by have := h45 []; rwa [List.append_nil] at this)
    have h2 := suffix_no (baseL b n) 46 h46
    simp only [Bool.false_eq_true, if_false, List.nil_append, List.append_nil, h1.1, h1.2, h2.1, h2.2, hac]
    rw [if_neg (by simp [hne])]
  · have h1 := prefix_no (baseL b n ++ [46]) 45 (h45 [46])
    have h2 := suffix_yes (baseL b n) 46
    simp only [Bool.false_eq_true, if_false, if_true, List.nil_append, h1.1, h1.2, h2.1, h2.2, hac]
    rw [if_neg (by simp [hne])]
  · have h1 := prefix_yes (baseL b n) 45
    have h2 := suffix_no (baseL b n) 46 h46
    simp only [Bool.false_eq_true, if_false, if_true, List.singleton_append, List.append_nil, h1.1, h1.2, h2.1, h2.2, hac]
    rw [if_neg (by simp [hne])]
  · have h1 := prefix_yes (baseL b n ++ [46]) 45
    have h2 := suffix_yes (baseL b n) 46
    simp only [if_true, List.nil_append, List.cons_append, h1.1, h1.2, h2.1, h2.2, hac]
    rw [if_neg (by simp [hne])]

theorem numF_plain (s : ByteArray) (b : Int) (c : UInt8) (l : List UInt8) (hs : s.data.toList = c :: l) (hc : basesF c.toNat = 0) : numF s b = numTail (c :: l) b := by
  unfold numF
  rw [hs]
  simp only [hc, Nat.lt_irrefl, if_false]

/-- the text of a pair, with a point or none, read -/
theorem numF_signed (b : Nat) (hb0 : 2 ≤ b) (hb : b ≤ 36) (N : Nat) (hN : N < 340282366920938463463374607431768211456) (point : Bool) (s : ByteArray) (hs : s.data.toList = signedL b N ++ (if point then [46] else [])) :
    numF s (b : Int) = if point then (pP N, 2) else ((pl N, 0), 1) := by
  unfold signedL at hs
  by_cases h : 170141183460469231731687303715884105728 ≤ N
  · rw [if_pos h] at hs
    rw [numF_plain s b 45 _ (by rw [hs, List.cons_append]) (by decide)]
    have ht := tail_of b hb0 hb ((340282366920938463463374607431768211456 - N) % 340282366920938463463374607431768211456) (Nat.mod_lt _ (by omega)) true point
    have hnn : negP (pP ((340282366920938463463374607431768211456 - N) % 340282366920938463463374607431768211456)) = pP N := by
      rw [neg_pP _ (Nat.mod_lt _ (by omega))]
      congr 1
      omega
    simp only [if_true, List.nil_append, List.cons_append, hnn] at ht
    rw [ht]
    rfl
  · rw [if_neg h] at hs
    have ht := tail_of b hb0 hb N hN false point
    simp only [Bool.false_eq_true, if_false, List.nil_append] at ht
    cases hl : baseL b N with
    | nil => exact absurd hl (base_ne b N)
    | cons x t =>
      have hx := (base_plain b hb0 hb N x (by rw [hl]; simp)).2.2
      rw [hl, List.cons_append] at ht hs
      rw [numF_plain s b x _ hs hx, ht]
      rfl
end Go.Proofs.YtgdmiodcfdcihaaGreatDoor
