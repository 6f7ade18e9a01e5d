import Ieee.Arith
import Derived.Laws.FloatBits
import Derived.Laws.FloatArith
/- Doubles as whole numbers: a finite word is a sign and a number of 2^-1074ths; what is exact is exact. Plain mathematics, no program. -/
namespace Go.Proofs.YtkbchpaofmlhgaaGreatDoor.Fl
open Ieee

/-- the mantissa, the exponent (from 0 up) and the number of 2^-1074ths of a rung -/
def M (r : Nat) : Nat := if r < 4503599627370496 then r else 4503599627370496 + r % 4503599627370496
def E (r : Nat) : Nat := if r < 4503599627370496 then 0 else r / 4503599627370496 - 1
def Nv (r : Nat) : Nat := M r * 2 ^ E r
def sg (w : Nat) : Bool := w / 9223372036854775808 % 2 == 1
def rg (w : Nat) : Nat := w % 9223372036854775808

theorem c_binade : double.binade = 4503599627370496 := by decide
theorem c_inf : double.infRung = 9218868437227405312 := by decide
theorem c_sign : double.signWeight = 9223372036854775808 := by decide
theorem c_place : double.leastPlace = -1074 := by decide

theorem read_fin {w : Nat} (h : rg w < 9218868437227405312) : double.read w = .number (sg w) (M (rg w)) (-1074 + (E (rg w) : Int)) := by
  unfold Format.read M E sg rg at *
  simp only [c_binade, c_inf, c_sign, c_place]
  split
  · simp
  · rfl
theorem read_inf {w : Nat} (h : rg w = 9218868437227405312) : double.read w = .infinity (sg w) := by
  unfold Format.read sg rg at *
  simp only [c_binade, c_inf, c_sign, c_place]
  rw [if_neg (by omega), if_neg (by omega), if_pos h]
theorem read_nan {w : Nat} (h : 9218868437227405312 < rg w) : double.read w = .nan (sg w) (rg w - 9218868437227405312) := by
  unfold Format.read sg rg at *
  simp only [c_binade, c_inf, c_sign, c_place]
  rw [if_neg (by omega), if_neg (by omega), if_neg (by omega)]

theorem M_lt (r : Nat) : M r < 9007199254740992 := by unfold M; split <;> omega
theorem M_ge {r : Nat} (h : 4503599627370496 ≤ r) : 4503599627370496 ≤ M r := by unfold M; split <;> omega
theorem EM (r : Nat) : E r * 4503599627370496 + M r = r := by unfold E M; split <;> omega
theorem E_pos {r : Nat} (h : 0 < E r) : 4503599627370496 ≤ M r := by unfold E M at *; split <;> simp_all
theorem M_zero {r : Nat} (h : M r = 0) : r = 0 := by unfold M at h; split at h <;> omega
theorem Nv_zero {r : Nat} (h : Nv r = 0) : r = 0 := by
  unfold Nv at h
  rcases Nat.mul_eq_zero.1 h with h | h
  · exact M_zero h
  · exact absurd h (Nat.ne_of_gt (Nat.two_pow_pos _))

theorem log2_mul_pow (m k : Nat) (h : m ≠ 0) : (m * 2 ^ k).log2 = m.log2 + k := by
  induction k with
  | zero => simp
  | succ k ih => rw [Nat.pow_succ, ← Nat.mul_assoc, Nat.mul_comm _ 2, Nat.log2_two_mul (Nat.mul_ne_zero h (Nat.ne_of_gt (Nat.two_pow_pos k))), ih]; omega
theorem log2_M {r : Nat} (h : 4503599627370496 ≤ r) : (M r).log2 = 52 := by
  have h1 := M_ge h
  have h2 := M_lt r
  have : 52 ≤ (M r).log2 := (Nat.le_log2 (by omega)).2 (by simpa using h1)
  have : (M r).log2 < 53 := (Nat.log2_lt (by omega)).2 (by simpa using h2)
  omega
theorem log2_small {r : Nat} (h : r < 4503599627370496) : r.log2 < 52 := by
  by_cases h0 : r = 0
  · subst h0; decide
  · exact (Nat.log2_lt h0).2 (by simpa using h)

theorem cut_zero (neg : Bool) (n : Nat) : Toward.even.cut neg n 0 = n := by
  unfold Toward.cut
  simp [Nat.mod_one]
theorem cut_exact (neg : Bool) (m d : Nat) (h : m ≠ 0) : Toward.even.cut neg (m * 2 ^ d) d = m := by
  unfold Toward.cut
  have h1 : min d ((m * 2 ^ d).log2 + 2) = d := by rw [log2_mul_pow m d h]; omega
  have hp : 0 < 2 ^ d := Nat.two_pow_pos d
  simp only [h1, Nat.one_shiftLeft, Nat.mul_mod_left, Nat.mul_div_cancel _ hp]
  have e1 : (decide (2 ^ d < 2 * 0)) = false := by simp
  have e2 : (2 ^ d == 2 * 0) = false := by rw [beq_eq_false_iff_ne]; omega
  rw [e1, e2]
  simp

/-- THE EXACT CASE: a number that is a rung's is rounded to that rung. s: so many binary digits more, so that both are whole. -/
theorem nearest_of (neg : Bool) (r : Nat) (hr : r < 9218868437227405312) (mag : Nat) (place : Int) (s : Nat) (hs : 0 ≤ place + 1074 + s) (he : mag * 2 ^ (place + 1074 + s).toNat = Nv r * 2 ^ s) :
    double.nearest neg mag place = double.word neg r := by
  unfold Format.nearest
  by_cases hm : mag = 0
  · subst hm
    rw [Nat.zero_mul] at he
    have h0 : Nv r = 0 := by
      rcases Nat.mul_eq_zero.1 he.symm with h | h
      · exact h
      · exact absurd h (Nat.ne_of_gt (Nat.two_pow_pos _))
    rw [if_pos rfl, Nv_zero h0]
  · rw [if_neg hm]
    obtain ⟨t, ht⟩ : ∃ t : Nat, place + 1074 + s = t := ⟨(place + 1074 + s).toNat, by omega⟩
    rw [ht, Int.toNat_natCast] at he
    have hM : M r ≠ 0 := by
      intro h
      rw [Nv, h, Nat.zero_mul, Nat.zero_mul] at he
      rcases Nat.mul_eq_zero.1 he with h1 | h1
      · exact hm h1
      · exact absurd h1 (Nat.ne_of_gt (Nat.two_pow_pos _))
    have he2 : mag * 2 ^ t = M r * 2 ^ (E r + s) := by rw [he, Nv, Nat.pow_add, Nat.mul_assoc]
    have hl : mag.log2 + t = (M r).log2 + (E r + s) := by
      rw [← log2_mul_pow mag t hm, he2, log2_mul_pow _ _ hM]
    have hlast : max (place + (mag.log2 : Int) - (double.fractionBits : Int)) double.leastPlace = (E r : Int) - 1074 := by
      rw [c_place]
      show max (place + (mag.log2 : Int) - 52) (-1074) = _
      by_cases h52 : 4503599627370496 ≤ r
      · have := log2_M h52
        omega
      · have e0 : E r = 0 := by unfold E; rw [if_pos (by omega)]
        have em : M r = r := by unfold M; rw [if_pos (by omega)]
        have := log2_small (r := r) (by omega)
        rw [em] at hl
        omega
    simp only [hlast]
    have hrung : ((E r : Int) - 1074 - double.leastPlace).toNat = E r := by rw [c_place]; omega
    rw [hrung, c_binade, c_inf]
    have hkept : Toward.even.cut neg (mag <<< (place - ((E r : Int) - 1074)).toNat) ((E r : Int) - 1074 - place).toNat = M r := by
      by_cases hp : (E r : Int) - 1074 ≤ place
      · have e0 : ((E r : Int) - 1074 - place).toNat = 0 := by omega
        rw [e0, cut_zero, Nat.shiftLeft_eq]
        obtain ⟨k, hk⟩ : ∃ k : Nat, place - ((E r : Int) - 1074) = k := ⟨(place - ((E r : Int) - 1074)).toNat, by omega⟩
        rw [hk, Int.toNat_natCast]
        have hts : t = k + (E r + s) := by omega
        rw [hts, Nat.pow_add, ← Nat.mul_assoc] at he2
        exact Nat.eq_of_mul_eq_mul_right (Nat.two_pow_pos _) he2
      · have e0 : (place - ((E r : Int) - 1074)).toNat = 0 := by omega
        obtain ⟨k, hk⟩ : ∃ k : Nat, (E r : Int) - 1074 - place = k := ⟨((E r : Int) - 1074 - place).toNat, by omega⟩
        rw [e0, hk, Int.toNat_natCast, Nat.shiftLeft_zero]
        have hts : E r + s = k + t := by omega
        rw [hts, Nat.pow_add, ← Nat.mul_assoc] at he2
        have hmag := Nat.eq_of_mul_eq_mul_right (Nat.two_pow_pos _) he2
        rw [hmag]
        exact cut_exact neg _ _ hM
    rw [hkept, EM, Nat.min_eq_left (by omega)]

theorem sg_word (neg : Bool) (r : Nat) (h : r < 9223372036854775808) : sg (double.word neg r) = neg := by
  unfold sg Format.word; rw [c_sign]
  cases neg
  · have : r / 9223372036854775808 = 0 := by omega
    simp [this]
  · have : (9223372036854775808 + r) / 9223372036854775808 = 1 := by omega
    simp [this]
theorem rg_word (neg : Bool) (r : Nat) (h : r < 9223372036854775808) : rg (double.word neg r) = r := by
  unfold rg Format.word; rw [c_sign]
  cases neg <;> simp <;> omega
theorem word_of (w : Nat) (h : w < 18446744073709551616) : double.word (sg w) (rg w) = w := by
  unfold Format.word sg rg; rw [c_sign]
  by_cases hw : w < 9223372036854775808
  · have : w / 9223372036854775808 = 0 := by omega
    simp [this]; omega
  · have : w / 9223372036854775808 = 1 := by omega
    simp [this]; omega

/-- bigger rungs are bigger numbers -/
theorem Nv_lt {r r' : Nat} (h : r < r') : Nv r < Nv r' := by
  have h1 := EM r
  have h2 := EM r'
  have m1 := M_lt r
  have m2 := M_lt r'
  unfold Nv
  by_cases he : E r = E r'
  · rw [he]
    exact Nat.mul_lt_mul_of_pos_right (by rw [he] at h1; omega) (Nat.two_pow_pos _)
  · have hE : E r < E r' := by
      rcases Nat.lt_or_gt_of_ne he with h3 | h3
      · exact h3
      · have := E_pos (r := r) (by omega); omega
    have h4 := E_pos (r := r') (by omega)
    calc M r * 2 ^ E r < 9007199254740992 * 2 ^ E r := Nat.mul_lt_mul_of_pos_right m1 (Nat.two_pow_pos _)
      _ = 4503599627370496 * 2 ^ (E r + 1) := by rw [Nat.pow_succ]; omega
      _ ≤ 4503599627370496 * 2 ^ E r' := Nat.mul_le_mul_left _ (Nat.pow_le_pow_right (by omega) hE)
      _ ≤ M r' * 2 ^ E r' := Nat.mul_le_mul_right _ h4
theorem Nv_inj {r r' : Nat} (h : Nv r = Nv r') : r = r' := by
  rcases Nat.lt_trichotomy r r' with h1 | h1 | h1
  · have := Nv_lt h1; omega
  · exact h1
  · have := Nv_lt h1; omega

/-- each number of at most 53 digits, and not too great, is a rung's -/
theorem rung_of (m j : Nat) (hm : m < 9007199254740992) (hl : m = 0 ∨ m.log2 + j < 2098) : ∃ r, r < 9218868437227405312 ∧ Nv r = m * 2 ^ j := by
  by_cases h0 : m = 0
  · exact ⟨0, by omega, by subst h0; simp [Nv, M]⟩
  · have hl := hl.resolve_left h0
    have hlm : m.log2 < 53 := (Nat.log2_lt h0).2 (by simpa using hm)
    by_cases hs : m.log2 + j < 52
    · have hlt : m * 2 ^ j < 4503599627370496 := by
        have := (Nat.log2_lt (n := m * 2 ^ j) (k := 52) (Nat.mul_ne_zero h0 (Nat.ne_of_gt (Nat.two_pow_pos j)))).1 (by rw [log2_mul_pow m j h0]; exact hs)
        simpa using this
      refine ⟨m * 2 ^ j, by omega, ?_⟩
      unfold Nv M E
      rw [if_pos hlt, if_pos hlt, Nat.pow_zero, Nat.mul_one]
    · -- the exponent, and the mantissa brought to 53 digits
      obtain ⟨e, he⟩ : ∃ e, m.log2 + j = 52 + e := ⟨m.log2 + j - 52, by omega⟩
      obtain ⟨d, hd⟩ : ∃ d, m.log2 + d = 52 := ⟨52 - m.log2, by omega⟩
      have hj : j = d + e := by omega
      have hlo : 4503599627370496 ≤ m * 2 ^ d := by
        have := (Nat.le_log2 (n := m * 2 ^ d) (k := 52) (Nat.mul_ne_zero h0 (Nat.ne_of_gt (Nat.two_pow_pos d)))).1 (by rw [log2_mul_pow m d h0]; omega)
        simpa using this
      have hhi : m * 2 ^ d < 9007199254740992 := by
        have := (Nat.log2_lt (n := m * 2 ^ d) (k := 53) (Nat.mul_ne_zero h0 (Nat.ne_of_gt (Nat.two_pow_pos d)))).1 (by rw [log2_mul_pow m d h0]; omega)
        simpa using this
      refine ⟨(e + 1) * 4503599627370496 + (m * 2 ^ d - 4503599627370496), by omega, ?_⟩
      have hE : E ((e + 1) * 4503599627370496 + (m * 2 ^ d - 4503599627370496)) = e := by unfold E; rw [if_neg (by omega)]; omega
      have hMM : M ((e + 1) * 4503599627370496 + (m * 2 ^ d - 4503599627370496)) = m * 2 ^ d := by unfold M; rw [if_neg (by omega)]; omega
      rw [Nv, hE, hMM, hj, Nat.pow_add, Nat.mul_assoc]

/-! ### what is done to words -/
/-- a finite word as a whole number of 2^-1074ths, with its sign -/
def Zv (w : Nat) : Int := if sg w then -(Nv (rg w) : Int) else (Nv (rg w) : Int)
def fin (w : Nat) : Prop := rg w < 9218868437227405312

theorem compare_mul (a b : Int) (c : Int) (hc : 0 < c) : compare (a * c) (b * c) = compare a b := by
  rcases Int.lt_trichotomy a b with h | h | h
  · rw [Int.compare_eq_lt.2 h, Int.compare_eq_lt.2 (Int.mul_lt_mul_of_pos_right h hc)]
  · subst h; rw [Int.compare_eq_eq.2 rfl, Int.compare_eq_eq.2 rfl]
  · rw [Int.compare_eq_gt.2 h, Int.compare_eq_gt.2 (Int.mul_lt_mul_of_pos_right h hc)]
theorem signed_scale (s : Bool) (m d b : Nat) : signed s m d * (2 ^ b : Nat) = if s then -((m * 2 ^ (d + b) : Nat) : Int) else ((m * 2 ^ (d + b) : Nat) : Int) := by
  unfold signed
  rw [Nat.shiftLeft_eq, Nat.pow_add, ← Nat.mul_assoc]
  cases s
  · simp
  · simp [Int.neg_mul]
theorem order_fin {x y : Nat} (hx : fin x) (hy : fin y) : double.order x y = some (compare (Zv x) (Zv y)) := by
  unfold Format.order
  rw [read_fin hx, read_fin hy]
  simp only [Datum.order]
  congr 1
  obtain ⟨b, hb⟩ : ∃ b, b = min (E (rg x)) (E (rg y)) := ⟨_, rfl⟩
  have h1 : (-1074 + (E (rg x) : Int) - min (-1074 + (E (rg x) : Int)) (-1074 + (E (rg y) : Int))).toNat = E (rg x) - b := by omega
  have h2 : (-1074 + (E (rg y) : Int) - min (-1074 + (E (rg x) : Int)) (-1074 + (E (rg y) : Int))).toNat = E (rg y) - b := by omega
  rw [h1, h2, ← compare_mul _ _ (2 ^ b : Nat) (by exact_mod_cast Nat.two_pow_pos b), signed_scale, signed_scale, show E (rg x) - b + b = E (rg x) by omega, show E (rg y) - b + b = E (rg y) by omega]
  rfl

theorem fin_word (neg : Bool) {r : Nat} (h : r < 9218868437227405312) : fin (double.word neg r) := by
  unfold fin; rw [rg_word neg r (by omega)]; exact h
theorem Zv_pos {r : Nat} (h : r < 9218868437227405312) : Zv (double.word false r) = Nv r := by
  unfold Zv; rw [sg_word false r (by omega), rg_word false r (by omega)]; rfl

theorem read_word (neg : Bool) {r : Nat} (h : r < 9218868437227405312) : double.read (double.word neg r) = .number neg (M r) (-1074 + (E r : Int)) := by
  rw [read_fin (fin_word neg h), sg_word neg r (by omega), rg_word neg r (by omega)]

theorem read_two : double.read 4611686018427387904 = .number false 4503599627370496 (-51) := by decide
theorem mul_two {r q : Nat} (hr : r < 9218868437227405312) (hq : q < 9218868437227405312) (h : Nv q = 2 * Nv r) : double.mul (double.word false r) 4611686018427387904 = some (double.word false q) := by
  unfold Format.mul
  rw [read_word false hr, read_two]
  simp only [Datum.product, Option.map_some, Format.write]
  congr 1
  refine nearest_of _ q hq _ _ 51 (by omega) ?_
  have e : (-1074 + (E r : Int) + -51 + 1074 + (51 : Nat)).toNat = E r := by omega
  rw [e, h]
  unfold Nv
  rw [Nat.mul_right_comm, Nat.mul_comm 2 (M r * 2 ^ E r), Nat.mul_assoc (M r * 2 ^ E r)]
theorem div_two {r q : Nat} (hr : r < 9218868437227405312) (hq : q < 9218868437227405312) (h : Nv r = 2 * Nv q) : double.div (double.word false r) 4611686018427387904 = some (double.word false q) := by
  unfold Format.div
  rw [read_word false hr, read_two]
  simp only [Datum.quotient]
  rw [if_neg (by decide)]
  simp only [Option.map_some, Format.write]
  congr 1
  have hl : (4503599627370496 : Nat).log2 = 52 := by decide
  have hm : (M r).log2 ≤ 52 := by
    by_cases h0 : M r = 0
    · rw [h0]; decide
    · have := (Nat.log2_lt (k := 53) h0).2 (by simpa using M_lt r); omega
  obtain ⟨k, hk⟩ : ∃ k, double.fractionBits + 2 + (4503599627370496 : Nat).log2 - (M r).log2 = k + 52 := ⟨54 - (M r).log2, by rw [hl]; show 52 + 2 + 52 - _ = _; omega⟩
  have hk54 : k ≤ 54 := by rw [hl] at hk; have : double.fractionBits = 52 := rfl; omega
  rw [hk, Nat.shiftLeft_eq]
  have hdiv : M r * 2 ^ (k + 52) / 4503599627370496 = M r * 2 ^ k := by
    rw [Nat.pow_add, ← Nat.mul_assoc]; exact Nat.mul_div_cancel _ (by omega)
  have hmod : M r * 2 ^ (k + 52) % 4503599627370496 = 0 := by
    rw [Nat.pow_add, ← Nat.mul_assoc]; exact Nat.mul_mod_left _ _
  rw [hdiv, hmod]
  refine nearest_of _ q hq _ _ (k + 3) (by omega) ?_
  have e : (-1074 + (E r : Int) - -51 - ((k + 52 : Nat) : Int) - 1 + 1074 + ((k + 3 : Nat) : Int)).toNat = E r + 1 := by omega
  rw [e]
  have h' : M r * 2 ^ E r = 2 * Nv q := h
  have e2 : (2 * (M r * 2 ^ k) + ((0 : Nat) != 0).toNat) * 2 ^ (E r + 1) = (M r * 2 ^ E r) * 2 ^ (k + 2) := by
    simp only [bne_self_eq_false, Bool.toNat_false, Nat.add_zero, Nat.pow_add]
    have : (2 : Nat) ^ 1 = 2 := rfl
    have h4 : (2 : Nat) ^ 2 = 4 := rfl
    rw [this, h4]
    generalize 2 ^ k = a
    generalize 2 ^ E r = c
    rw [show 2 * (M r * a) * (c * 2) = (M r * c) * (a * 4) by
      have : 2 * (M r * a) * (c * 2) = (M r * a * c) * 4 := by
        rw [Nat.mul_assoc 2, Nat.mul_comm c 2, ← Nat.mul_assoc (M r * a) 2 c, Nat.mul_comm (M r * a) 2, Nat.mul_assoc 2 (M r * a) c, ← Nat.mul_assoc 2 2, Nat.mul_comm (2 * 2)]
      rw [this, Nat.mul_assoc (M r), Nat.mul_comm a c, ← Nat.mul_assoc (M r), Nat.mul_assoc (M r * c)]]
  rw [e2, h', Nat.pow_succ 2 (k + 2), Nat.mul_comm 2 (Nv q), Nat.mul_assoc, Nat.mul_comm 2 (2 ^ (k + 2))]

end Go.Proofs.YtkbchpaofmlhgaaGreatDoor.Fl

/- Doubles, more: what is rounded down, what is whole, what an integer is made of. Plain mathematics, no program. -/
namespace Go.Proofs.YtkbchpaofmlhgaaGreatDoor.Fl
open Ieee

theorem nat_pow_log (n : Nat) (h : n ≠ 0) : n < 2 ^ (n.log2 + 1) := (Nat.log2_lt h).1 (Nat.lt_succ_self _)
theorem div_gap (n d : Nat) : n / (1 <<< min d (n.log2 + 2)) = n / 2 ^ d := by
  rw [Nat.one_shiftLeft]
  by_cases hd : d ≤ n.log2 + 2
  · rw [Nat.min_eq_left hd]
  · rw [Nat.min_eq_right (by omega)]
    by_cases h0 : n = 0
    · subst h0; simp
    · have h1 := nat_pow_log n h0
      have h2 : (2 : Nat) ^ (n.log2 + 1) ≤ 2 ^ (n.log2 + 2) := Nat.pow_le_pow_right (by omega) (by omega)
      have h3 : (2 : Nat) ^ (n.log2 + 1) ≤ 2 ^ d := Nat.pow_le_pow_right (by omega) (by omega)
      rw [Nat.div_eq_of_lt (by omega), Nat.div_eq_of_lt (by omega)]
theorem cut_down (n d : Nat) : Toward.down.cut false n d = n / 2 ^ d := by
  unfold Toward.cut
  simp only [div_gap, Bool.false_and, Bool.toNat_false, Nat.add_zero]
theorem cut_nil (neg : Bool) (n d : Nat) : Toward.zero.cut neg n d = n / 2 ^ d := by
  unfold Toward.cut
  simp only [div_gap, Bool.toNat_false, Nat.add_zero]

/-- the place of the unit, 1074, and the unit, under names that no tactic looks through -/
@[irreducible] def B : Nat := 1074
theorem B_eq : B = 1074 := by unfold B; rfl
@[irreducible] def U : Nat := 2 ^ B
theorem U_eq : U = 2 ^ B := by unfold U; rfl
theorem U_pos : 0 < U := by rw [U_eq]; exact Nat.two_pow_pos _
/-- so many whole units -/
def Iv (r : Nat) : Nat := Nv r / U
theorem whole_part (m e B : Nat) : (m <<< ((-(B : Int) + (e : Int)).toNat)) / 2 ^ (-(-(B : Int) + (e : Int))).toNat = m * 2 ^ e / 2 ^ B := by
  rw [Nat.shiftLeft_eq]
  by_cases h : B ≤ e
  · obtain ⟨k, hk⟩ : ∃ k, e = B + k := ⟨e - B, by omega⟩
    subst hk
    have e1 : (-(B : Int) + ((B + k : Nat) : Int)).toNat = k := by omega
    have e2 : (-(-(B : Int) + ((B + k : Nat) : Int))).toNat = 0 := by omega
    rw [e1, e2, Nat.pow_zero, Nat.div_one, Nat.pow_add, Nat.mul_comm (2 ^ B), ← Nat.mul_assoc, Nat.mul_div_cancel _ (Nat.two_pow_pos B)]
  · obtain ⟨k, hk⟩ : ∃ k, B = k + e := ⟨B - e, by omega⟩
    subst hk
    have e1 : (-((k + e : Nat) : Int) + (e : Int)).toNat = 0 := by omega
    have e2 : (-(-((k + e : Nat) : Int) + (e : Int))).toNat = k := by omega
    rw [e1, e2, Nat.pow_zero, Nat.mul_one, Nat.pow_add]
    exact (Nat.mul_div_mul_right _ _ (Nat.two_pow_pos e)).symm
theorem integral_down {r : Nat} (hr : r < 9218868437227405312) : (double.read (double.word false r)).integral .down = .number false (Iv r) 0 := by
  rw [read_word false hr]
  simp only [Datum.integral, cut_down]
  congr 1
  rw [Iv, U_eq, Nv, ← whole_part, B_eq]
  rfl
theorem toInt_fin {w : Nat} (h : fin w) : (double.read w).toInt .zero = some (if sg w then -(Iv (rg w) : Int) else (Iv (rg w) : Int)) := by
  rw [read_fin h]
  simp only [Datum.toInt, Datum.integral, cut_nil]
  rw [show (M (rg w) <<< ((-1074 + (E (rg w) : Int)).toNat)) / 2 ^ (-(-1074 + (E (rg w) : Int))).toNat = Iv (rg w) by rw [Iv, U_eq, Nv, ← whole_part, B_eq]; rfl]
  unfold signed
  rw [Nat.shiftLeft_zero]

theorem E_le {r : Nat} (h : r < 9218868437227405312) : E r ≤ 2045 := by unfold E; split <;> omega
theorem log_M (r : Nat) : M r = 0 ∨ (M r).log2 ≤ 52 := by
  by_cases h0 : M r = 0
  · exact .inl h0
  · exact .inr (by have := (Nat.log2_lt (k := 53) h0).2 (by simpa using M_lt r); omega)
/-- a great enough exponent: it is whole -/
theorem Nv_whole {r : Nat} (h : B ≤ E r) : Nv r % U = 0 := by
  unfold Nv
  obtain ⟨k, hk⟩ : ∃ k, E r = B + k := ⟨E r - B, by omega⟩
  rw [hk, U_eq, Nat.pow_add, Nat.mul_comm (2 ^ B), ← Nat.mul_assoc, Nat.mul_mod_left]
theorem small_E {r : Nat} (h : Nv r % U ≠ 0) : E r < B := by
  rcases Nat.lt_or_ge (E r) B with h1 | h1
  · exact h1
  · exact absurd (Nv_whole h1) h
theorem Iv_small {r : Nat} (h : E r < B) : Iv r < 9007199254740992 := by
  unfold Iv Nv
  rw [U_eq, Nat.div_lt_iff_lt_mul (Nat.two_pow_pos _)]
  calc M r * 2 ^ E r < 9007199254740992 * 2 ^ E r := Nat.mul_lt_mul_of_pos_right (M_lt r) (Nat.two_pow_pos _)
    _ ≤ 9007199254740992 * 2 ^ B := Nat.mul_le_mul_left _ (Nat.pow_le_pow_right (by omega) (by omega))
theorem div_back (a b : Nat) (h : a % b = 0) : a / b * b = a := by
  have := Nat.div_add_mod a b
  rw [h, Nat.add_zero, Nat.mul_comm] at this
  exact this
/-- each number of units is a rung's, if it has 53 digits -/
theorem unit_rung (k : Nat) (hk : k < 9007199254740992) : ∃ q, q < 9218868437227405312 ∧ Nv q = k * U := by
  rw [U_eq]
  refine rung_of k B hk ?_
  by_cases h0 : k = 0
  · exact .inl h0
  · have : k.log2 < 53 := (Nat.log2_lt h0).2 (by simpa using hk)
    exact .inr (by rw [B_eq]; omega)
theorem floor_rung {r : Nat} (hr : r < 9218868437227405312) : ∃ q, q < 9218868437227405312 ∧ Nv q = Iv r * U := by
  by_cases h : Nv r % U = 0
  · exact ⟨r, hr, (div_back _ _ h).symm⟩
  · exact unit_rung _ (Iv_small (small_E h))
theorem write_unit (neg : Bool) {k q : Nat} (hq : q < 9218868437227405312) (h : Nv q = k * U) : double.write (.number neg k 0) = double.word neg q := by
  simp only [Format.write]
  refine nearest_of neg q hq k 0 0 (by omega) ?_
  rw [h, Nat.pow_zero, Nat.mul_one, U_eq, show ((0 : Int) + 1074 + (0 : Nat)).toNat = B by rw [B_eq]; rfl]

/-- WHAT IS ROUNDED DOWN, of a number that is not below 0 -/
theorem floor_word {r : Nat} (hr : r < 9218868437227405312) : ∃ q, q < 9218868437227405312 ∧ Nv q = Iv r * U ∧ double.write ((double.read (double.word false r)).integral .down) = double.word false q := by
  obtain ⟨q, hq, hv⟩ := floor_rung hr
  exact ⟨q, hq, hv, by rw [integral_down hr, write_unit false hq hv]⟩

/-- twice a number that is not whole -/
theorem double_rung {r : Nat} (h : E r < 2045) : ∃ q, q < 9218868437227405312 ∧ Nv q = 2 * Nv r := by
  obtain ⟨q, hq, hv⟩ := rung_of (M r) (E r + 1) (M_lt r) (by rcases log_M r with h1 | h1; exact .inl h1; exact .inr (by omega))
  exact ⟨q, hq, by rw [hv, Nv, Nat.pow_succ, ← Nat.mul_assoc, Nat.mul_comm]⟩
theorem half_rung {r : Nat} (hr : r < 9218868437227405312) (h : 0 < E r) : ∃ q, q < 9218868437227405312 ∧ Nv r = 2 * Nv q := by
  have := E_le hr
  obtain ⟨q, hq, hv⟩ := rung_of (M r) (E r - 1) (M_lt r) (by rcases log_M r with h1 | h1; exact .inl h1; exact .inr (by omega))
  refine ⟨q, hq, ?_⟩
  obtain ⟨k, hk⟩ : ∃ k, E r = k + 1 := ⟨E r - 1, by omega⟩
  rw [hv, Nv, hk, Nat.pow_succ, ← Nat.mul_assoc, Nat.mul_comm, Nat.add_sub_cancel]
/-- a number of a great many units has a great exponent -/
theorem big_E {r j : Nat} (h : 2 ^ (53 + j) ≤ Nv r) : j < E r := by
  rcases Nat.lt_or_ge j (E r) with h1 | h1
  · exact h1
  · have h2 : Nv r < 2 ^ (53 + j) := by
      unfold Nv
      calc M r * 2 ^ E r < 9007199254740992 * 2 ^ E r := Nat.mul_lt_mul_of_pos_right (M_lt r) (Nat.two_pow_pos _)
        _ ≤ 9007199254740992 * 2 ^ j := Nat.mul_le_mul_left _ (Nat.pow_le_pow_right (by omega) h1)
        _ = 2 ^ (53 + j) := by rw [Nat.pow_add]
    omega

theorem order_pos {r q : Nat} (hr : r < 9218868437227405312) (hq : q < 9218868437227405312) : double.order (double.word false r) (double.word false q) = some (compare (Nv r) (Nv q)) := by
  rw [order_fin (fin_word false hr) (fin_word false hq), Zv_pos hr, Zv_pos hq]
  congr 1
  rcases Nat.lt_trichotomy (Nv r) (Nv q) with h | h | h
  · rw [Int.compare_eq_lt.2 (by exact_mod_cast h), Nat.compare_eq_lt.2 h]
  · rw [h, Int.compare_eq_eq.2 rfl, Nat.compare_eq_eq.2 rfl]
  · rw [Int.compare_eq_gt.2 (by exact_mod_cast h), Nat.compare_eq_gt.2 h]
theorem word_false (r : Nat) : double.word false r = r := by simp [Format.word]

/-! ### order, of all that are numbers -/
theorem key_inf (s : Bool) : ∀ w : Nat, rg w = 9218868437227405312 → sg w = s → Zv w = if s then -(Nv 9218868437227405312 : Int) else (Nv 9218868437227405312 : Int) := by
  intro w h1 h2
  unfold Zv; rw [h1, h2]
theorem Nv_inf {r : Nat} (h : r < 9218868437227405312) : Nv r < Nv 9218868437227405312 := Nv_lt h
theorem Zv_bound {w : Nat} (h : fin w) : -(Nv 9218868437227405312 : Int) < Zv w ∧ Zv w < (Nv 9218868437227405312 : Int) := by
  have := Nv_inf h
  unfold Zv
  generalize Nv 9218868437227405312 = a at *
  generalize Nv (rg w) = b at *
  split <;> omega
theorem order_num {x y : Nat} (hx : rg x ≤ 9218868437227405312) (hy : rg y ≤ 9218868437227405312) : double.order x y = some (compare (Zv x) (Zv y)) := by
  by_cases h1 : rg x = 9218868437227405312
  · by_cases h2 : rg y = 9218868437227405312
    · unfold Format.order
      rw [read_inf h1, read_inf h2]
      simp only [Datum.order]
      have hp : (0 : Int) < Nv 9218868437227405312 := by have := Nv_lt (r := 0) (r' := 9218868437227405312) (by omega); exact_mod_cast (by omega : 0 < Nv 9218868437227405312)
      rw [key_inf (sg x) x h1 rfl, key_inf (sg y) y h2 rfl]
      generalize (Nv 9218868437227405312 : Int) = a at hp
      cases sg x <;> cases sg y
      · simp
      · simp only [Bool.toNat_true, Bool.toNat_false, if_true, if_false, Bool.false_eq_true]; rw [Int.compare_eq_gt.2 (by omega : a > -a)]; rfl
      · simp only [Bool.toNat_true, Bool.toNat_false, if_true, if_false, Bool.false_eq_true]; rw [Int.compare_eq_lt.2 (by omega : -a < a)]; rfl
      · simp
    · have hf : fin y := by unfold fin; omega
      have hb := Zv_bound hf
      unfold Format.order
      rw [read_inf h1, read_fin hf]
      simp only [Datum.order]
      rw [key_inf (sg x) x h1 rfl]
      generalize (Nv 9218868437227405312 : Int) = a at hb
      cases sg x
      · simp only [if_false, Bool.false_eq_true]; rw [Int.compare_eq_gt.2 (by omega)]
      · simp only [if_true]; rw [Int.compare_eq_lt.2 (by omega)]
  · have hf : fin x := by unfold fin; omega
    by_cases h2 : rg y = 9218868437227405312
    · have hb := Zv_bound hf
      unfold Format.order
      rw [read_inf h2, read_fin hf]
      simp only [Datum.order]
      rw [key_inf (sg y) y h2 rfl]
      generalize (Nv 9218868437227405312 : Int) = a at hb
      cases sg y
      · simp only [if_false, Bool.false_eq_true]; rw [Int.compare_eq_lt.2 (by omega)]
      · simp only [if_true]; rw [Int.compare_eq_gt.2 (by omega)]
    · exact order_fin hf (by unfold fin; omega)
theorem order_nan {x y : Nat} (h : 9218868437227405312 < rg x ∨ 9218868437227405312 < rg y) : double.order x y = none := by
  unfold Format.order
  rcases h with h | h
  · rw [read_nan h]; rfl
  · rw [read_nan h]; cases double.read x <;> rfl

end Go.Proofs.YtkbchpaofmlhgaaGreatDoor.Fl

/- Doubles, third part: exact sums, differences, products, halves; whole numbers as doubles. Plain mathematics, no program. -/
namespace Go.Proofs.YtkbchpaofmlhgaaGreatDoor.Fl
open Ieee

theorem Zv_word (s : Bool) {r : Nat} (h : r < 9218868437227405312) : Zv (double.word s r) = if s then -(Nv r : Int) else (Nv r : Int) := by
  unfold Zv; rw [sg_word s r (by omega), rg_word s r (by omega)]
theorem natAbs_Zv (w : Nat) : (Zv w).natAbs = Nv (rg w) := by
  unfold Zv; split <;> omega
theorem Zv_scale (x : Nat) (d b : Nat) (h : d + b = E (rg x)) : signed (sg x) (M (rg x)) d * ((2 ^ b : Nat) : Int) = Zv x := by
  rw [signed_scale, h]
  rfl

theorem add_exact {x y q : Nat} (hx : fin x) (hy : fin y) (hq : q < 9218868437227405312) (h : (Zv x + Zv y).natAbs = Nv q) :
    double.add x y = some (double.word (if Zv x + Zv y = 0 then sg x && sg y else decide (Zv x + Zv y < 0)) q) := by
  unfold Format.add
  rw [read_fin hx, read_fin hy]
  simp only [Datum.sum, Option.map_some, Format.write]
  obtain ⟨b, hb⟩ : ∃ b, b = min (E (rg x)) (E (rg y)) := ⟨_, rfl⟩
  have hbase : min (-1074 + (E (rg x) : Int)) (-1074 + (E (rg y) : Int)) = -1074 + (b : Int) := by omega
  rw [hbase]
  have h1 : (-1074 + (E (rg x) : Int) - (-1074 + (b : Int))).toNat = E (rg x) - b := by omega
  have h2 : (-1074 + (E (rg y) : Int) - (-1074 + (b : Int))).toNat = E (rg y) - b := by omega
  rw [h1, h2]
  obtain ⟨T, hT⟩ : ∃ T, signed (sg x) (M (rg x)) (E (rg x) - b) + signed (sg y) (M (rg y)) (E (rg y) - b) = T := ⟨_, rfl⟩
  have hs : T * ((2 ^ b : Nat) : Int) = Zv x + Zv y := by
    rw [← hT, Int.add_mul, Zv_scale x _ b (by omega), Zv_scale y _ b (by omega)]
  have hp : (0 : Int) < ((2 ^ b : Nat) : Int) := by exact_mod_cast Nat.two_pow_pos b
  rw [hT]
  have e0 : (T = 0) = (Zv x + Zv y = 0) := by
    rw [← hs]
    refine propext ⟨fun h => by rw [h, Int.zero_mul], fun h => ?_⟩
    rcases Int.mul_eq_zero.1 h with h | h
    · exact h
    · omega
  have e1 : (T < 0) = (Zv x + Zv y < 0) := by
    rw [← hs]
    refine propext ⟨fun h => Int.mul_neg_of_neg_of_pos h hp, fun h => ?_⟩
    rcases Int.lt_or_le T 0 with h3 | h3
    · exact h3
    · have := Int.mul_nonneg h3 (Int.le_of_lt hp)
      omega
  simp only [e0, e1]
  congr 1
  refine nearest_of _ q hq _ _ 0 (by omega) ?_
  rw [Nat.pow_zero, Nat.mul_one, ← h, ← hs, Int.natAbs_mul, Int.natAbs_natCast, show (-1074 + (b : Int) + 1074 + ((0 : Nat) : Int)).toNat = b by omega]

theorem sub_as_add {x y : Nat} (hy : fin y) : double.sub x y = double.add x (double.word (!sg y) (rg y)) := by
  unfold Format.sub Format.add
  rw [read_word _ hy, read_fin hy]
  rfl
theorem Zv_opp {y : Nat} (hy : fin y) : Zv (double.word (!sg y) (rg y)) = -Zv y := by
  rw [Zv_word _ hy]
  unfold Zv
  cases sg y <;> simp

theorem mul_exact {x y q : Nat} (hx : fin x) (hy : fin y) (hq : q < 9218868437227405312) (h : Nv (rg x) * Nv (rg y) = Nv q * U) :
    double.mul x y = some (double.word (sg x ^^ sg y) q) := by
  unfold Format.mul
  rw [read_fin hx, read_fin hy]
  simp only [Datum.product, Option.map_some, Format.write]
  congr 1
  refine nearest_of _ q hq _ _ B (by rw [B_eq]; omega) ?_
  rw [← U_eq, ← h, show (-1074 + (E (rg x) : Int) + (-1074 + (E (rg y) : Int)) + 1074 + (B : Int)).toNat = E (rg x) + E (rg y) by rw [B_eq]; omega]
  unfold Nv
  rw [Nat.pow_add, Nat.mul_mul_mul_comm]

theorem div_two_any (s : Bool) {r q : Nat} (hr : r < 9218868437227405312) (hq : q < 9218868437227405312) (h : Nv r = 2 * Nv q) : double.div (double.word s r) 4611686018427387904 = some (double.word s q) := by
  have h1 := div_two hr hq h
  cases s
  · exact h1
  · unfold Format.div at h1 ⊢
    rw [read_word false hr, read_two] at h1
    rw [read_word true hr, read_two]
    simp only [Datum.quotient] at h1 ⊢
    rw [if_neg (by decide)] at h1 ⊢
    simp only [Option.map_some, Format.write, Option.some.injEq, Bool.xor_false] at h1 ⊢
    unfold Format.nearest at h1 ⊢
    split at h1
    · rw [if_pos (by assumption)]
      unfold Format.word at h1 ⊢
      simp at h1 ⊢
      exact h1.symm
    · rw [if_neg (by assumption)]
      unfold Format.word at h1 ⊢
      have e : ∀ n d, Toward.even.cut true n d = Toward.even.cut false n d := fun n d => rfl
      simp only [Bool.false_eq_true, if_false, if_true, e] at h1 ⊢
      rw [h1]

/-- whole numbers -/
theorem flt_spec (n : Int) (h : n.natAbs < 9007199254740992) : ∃ q, q < 9218868437227405312 ∧ Nv q = n.natAbs * U ∧ floatOfInt .f64 n = double.word (decide (n < 0)) q := by
  obtain ⟨q, hq, hv⟩ := unit_rung n.natAbs h
  exact ⟨q, hq, hv, write_unit _ hq hv⟩
theorem flt_num (n : Int) (h : n.natAbs < 9007199254740992) : fin (floatOfInt .f64 n) ∧ Zv (floatOfInt .f64 n) = n * (U : Int) ∧ sg (floatOfInt .f64 n) = decide (n < 0) ∧ Nv (rg (floatOfInt .f64 n)) = n.natAbs * U := by
  obtain ⟨q, hq, hv, he⟩ := flt_spec n h
  rw [he]
  refine ⟨fin_word _ hq, ?_, sg_word _ _ (by omega), by rw [rg_word _ _ (by omega), hv]⟩
  rw [Zv_word _ hq, hv]
  rcases Int.lt_or_le n 0 with h1 | h1
  · rw [decide_eq_true h1, if_pos rfl, Int.natCast_mul, ← Int.neg_mul, show -(n.natAbs : Int) = n by omega]
  · rw [decide_eq_false (by omega), if_neg (by simp), Int.natCast_mul, show (n.natAbs : Int) = n by omega]

theorem unit_zero (n : Int) : (n * (U : Int) = 0) = (n = 0) := by
  have := U_pos
  refine propext ⟨fun h => ?_, fun h => by rw [h, Int.zero_mul]⟩
  rcases Int.mul_eq_zero.1 h with h | h
  · exact h
  · omega
theorem unit_neg (n : Int) : (n * (U : Int) < 0) = (n < 0) := by
  have hp : (0 : Int) < (U : Int) := by exact_mod_cast U_pos
  refine propext ⟨fun h => ?_, fun h => Int.mul_neg_of_neg_of_pos h hp⟩
  rcases Int.lt_or_le n 0 with h3 | h3
  · exact h3
  · have := Int.mul_nonneg h3 (Int.le_of_lt hp)
    omega

theorem add_flt (a b : Int) (ha : a.natAbs < 9007199254740992) (hb : b.natAbs < 9007199254740992) (hc : (a + b).natAbs < 9007199254740992) : double.add (floatOfInt .f64 a) (floatOfInt .f64 b) = some (floatOfInt .f64 (a + b)) := by
  obtain ⟨fa, za, sa, _⟩ := flt_num a ha
  obtain ⟨fb, zb, sb, _⟩ := flt_num b hb
  obtain ⟨q, hq, hv, he⟩ := flt_spec (a + b) hc
  have hz : Zv (floatOfInt .f64 a) + Zv (floatOfInt .f64 b) = (a + b) * (U : Int) := by rw [za, zb, Int.add_mul]
  rw [add_exact fa fb hq (by rw [hz, hv, Int.natAbs_mul, Int.natAbs_natCast]), hz, he]
  congr 2
  simp only [unit_zero, unit_neg, sa, sb]
  by_cases h0 : a + b = 0
  · rw [if_pos h0]
    rcases Int.lt_or_le a 0 with h1 | h1
    · rw [decide_eq_true h1, decide_eq_false (show ¬ b < 0 by omega), decide_eq_false (show ¬ a + b < 0 by omega)]; rfl
    · rw [decide_eq_false (show ¬ a < 0 by omega), decide_eq_false (show ¬ a + b < 0 by omega)]; rfl
  · rw [if_neg h0]
theorem sub_flt (a b : Int) (ha : a.natAbs < 9007199254740992) (hb : b.natAbs < 9007199254740992) (hc : (a - b).natAbs < 9007199254740992) : double.sub (floatOfInt .f64 a) (floatOfInt .f64 b) = some (floatOfInt .f64 (a - b)) := by
  obtain ⟨fa, za, sa, _⟩ := flt_num a ha
  obtain ⟨fb, zb, sb, _⟩ := flt_num b hb
  obtain ⟨q, hq, hv, he⟩ := flt_spec (a - b) hc
  have hz : Zv (floatOfInt .f64 a) + Zv (double.word (!sg (floatOfInt .f64 b)) (rg (floatOfInt .f64 b))) = (a - b) * (U : Int) := by rw [Zv_opp fb, za, zb, Int.sub_mul]; omega
  rw [sub_as_add fb, add_exact fa (fin_word _ fb) hq (by rw [hz, hv, Int.natAbs_mul, Int.natAbs_natCast]), hz, he]
  congr 2
  simp only [unit_zero, unit_neg, sa, sb]
  rw [sg_word _ _ (by unfold fin at fb; omega)]
  by_cases h0 : a - b = 0
  · rw [if_pos h0]
    rcases Int.lt_or_le a 0 with h1 | h1
    · rw [decide_eq_true h1, decide_eq_true (show b < 0 by omega), decide_eq_false (show ¬ a - b < 0 by omega)]; rfl
    · rw [decide_eq_false (show ¬ a < 0 by omega), decide_eq_false (show ¬ a - b < 0 by omega)]; rfl
  · rw [if_neg h0]
theorem mul_flt (a b : Int) (ha : a.natAbs < 9007199254740992) (hb : b.natAbs < 9007199254740992) (hc : (a * b).natAbs < 9007199254740992) (a0 : a ≠ 0) (b0 : b ≠ 0) : double.mul (floatOfInt .f64 a) (floatOfInt .f64 b) = some (floatOfInt .f64 (a * b)) := by
  obtain ⟨fa, _, sa, na⟩ := flt_num a ha
  obtain ⟨fb, _, sb, nb⟩ := flt_num b hb
  obtain ⟨q, hq, hv, he⟩ := flt_spec (a * b) hc
  rw [mul_exact fa fb hq (by rw [na, nb, hv, Int.natAbs_mul, Nat.mul_mul_mul_comm, ← Nat.mul_assoc]), he, sa, sb]
  congr 2
  rcases Int.lt_or_gt_of_ne a0 with h1 | h1 <;> rcases Int.lt_or_gt_of_ne b0 with h2 | h2
  · rw [decide_eq_true h1, decide_eq_true h2, decide_eq_false (by have := Int.mul_pos_of_neg_of_neg h1 h2; omega)]; rfl
  · rw [decide_eq_true h1, decide_eq_false (show ¬ b < 0 by omega), decide_eq_true (Int.mul_neg_of_neg_of_pos h1 h2)]; rfl
  · rw [decide_eq_false (show ¬ a < 0 by omega), decide_eq_true h2, decide_eq_true (Int.mul_neg_of_pos_of_neg h1 h2)]; rfl
  · rw [decide_eq_false (show ¬ a < 0 by omega), decide_eq_false (show ¬ b < 0 by omega), decide_eq_false (by have := Int.mul_pos h1 h2; omega)]; rfl
theorem order_flt (a b : Int) (ha : a.natAbs < 9007199254740992) (hb : b.natAbs < 9007199254740992) : double.order (floatOfInt .f64 a) (floatOfInt .f64 b) = some (compare a b) := by
  obtain ⟨fa, za, _, _⟩ := flt_num a ha
  obtain ⟨fb, zb, _, _⟩ := flt_num b hb
  rw [order_fin fa fb, za, zb, compare_mul _ _ _ (by exact_mod_cast U_pos)]

/-- half a whole number -/
theorem half_flt (a : Int) (ha : a.natAbs < 9007199254740992) : ∃ q, q < 9218868437227405312 ∧ 2 * Nv q = a.natAbs * U ∧ double.div (floatOfInt .f64 a) 4611686018427387904 = some (double.word (decide (a < 0)) q) := by
  obtain ⟨p, hp, hv, he⟩ := flt_spec a ha
  obtain ⟨k, hk⟩ : ∃ k, B = k + 1 := ⟨1073, by rw [B_eq]⟩
  obtain ⟨q, hq, hv2⟩ := rung_of a.natAbs k ha (by
    by_cases h0 : a.natAbs = 0
    · exact .inl h0
    · have : a.natAbs.log2 < 53 := (Nat.log2_lt h0).2 (by simpa using ha)
      have := B_eq
      exact .inr (by omega))
  have h2 : 2 * Nv q = a.natAbs * U := by rw [hv2, U_eq, hk, Nat.pow_succ, Nat.mul_comm 2, Nat.mul_assoc]
  exact ⟨q, hq, h2, by rw [he, div_two_any _ hp hq (by rw [hv, h2])]⟩
theorem twice_half (a : Int) (ha : a.natAbs < 9007199254740992) {q : Nat} (hq : q < 9218868437227405312) (h : 2 * Nv q = a.natAbs * U) : double.add (double.word (decide (a < 0)) q) (double.word (decide (a < 0)) q) = some (floatOfInt .f64 a) := by
  obtain ⟨p, hp, hv, he⟩ := flt_spec a ha
  have hf := fin_word (decide (a < 0)) hq
  have hz : Zv (double.word (decide (a < 0)) q) + Zv (double.word (decide (a < 0)) q) = a * (U : Int) := by
    obtain ⟨_, za, _, _⟩ := flt_num a ha
    rw [← za, he, Zv_word _ hq, Zv_word _ hp, hv, ← h]
    split <;> omega
  rw [add_exact hf hf hp (by rw [hz, hv, Int.natAbs_mul, Int.natAbs_natCast]), hz, he]
  congr 2
  simp only [unit_zero, unit_neg]
  rw [sg_word _ _ (by omega)]
  by_cases h0 : a = 0
  · subst h0; rfl
  · rw [if_neg h0]
/-- so many whole units has a half -/
theorem Iv_half {a q : Nat} (h : 2 * Nv q = a * U) : Iv q = a / 2 := by
  unfold Iv
  have hU := U_pos
  have h1 : Nv q / U = (2 * Nv q) / (2 * U) := (Nat.mul_div_mul_left _ _ (by omega)).symm
  rw [h1, h, Nat.mul_comm 2 U, ← Nat.div_div_eq_div_mul, Nat.mul_div_cancel _ hU]

end Go.Proofs.YtkbchpaofmlhgaaGreatDoor.Fl
