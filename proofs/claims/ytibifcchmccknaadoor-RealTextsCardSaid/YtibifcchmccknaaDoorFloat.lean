/- Doubles as whole numbers: a finite word is a sign and a number of 2^-1074ths; what is exact is exact. Plain mathematics, no program. -/
import Ieee.Arith
import Derived.Laws.FloatBits
namespace Go.Proofs.YtibifcchmccknaaDoor.Fl
open Ieee

/-- the mantissa, the exponent (from 0 up) and the number of 2^-1074ths of a rung -/
def M (r : Nat) : Nat := if r < 4503599627370496 then r else 4503599627370496 + r % 4503599627370496
def E (r : Nat) : Nat := if r < 4503599627370496 then 0 else r / 4503599627370496 - 1
def Nv (r : Nat) : Nat := M r * 2 ^ E r
def sg (w : Nat) : Bool := w / 9223372036854775808 % 2 == 1
def rg (w : Nat) : Nat := w % 9223372036854775808

theorem c_binade : double.binade = 4503599627370496 := by decide
theorem c_inf : double.infRung = 9218868437227405312 := by decide
theorem c_sign : double.signWeight = 9223372036854775808 := by decide
theorem c_place : double.leastPlace = -1074 := by decide

theorem read_fin {w : Nat} (h : rg w < 9218868437227405312) : double.read w = .number (sg w) (M (rg w)) (-1074 + (E (rg w) : Int)) := by
  unfold Format.read M E sg rg at *
  simp only [c_binade, c_inf, c_sign, c_place]
  split
  · simp
  · rfl
theorem read_inf {w : Nat} (h : rg w = 9218868437227405312) : double.read w = .infinity (sg w) := by
  unfold Format.read sg rg at *
  simp only [c_binade, c_inf, c_sign, c_place]
  rw [if_neg (by omega), if_neg (by omega), if_pos h]
theorem read_nan {w : Nat} (h : 9218868437227405312 < rg w) : double.read w = .nan (sg w) (rg w - 9218868437227405312) := by
  unfold Format.read sg rg at *
  simp only [c_binade, c_inf, c_sign, c_place]
  rw [if_neg (by omega), if_neg (by omega), if_neg (by omega)]

theorem M_lt (r : Nat) : M r < 9007199254740992 := by unfold M; split <;> omega
theorem M_ge {r : Nat} (h : 4503599627370496 ≤ r) : 4503599627370496 ≤ M r := by unfold M; split <;> omega
theorem EM (r : Nat) : E r * 4503599627370496 + M r = r := by unfold E M; split <;> omega
theorem E_pos {r : Nat} (h : 0 < E r) : 4503599627370496 ≤ M r := by unfold E M at *; split <;> simp_all
theorem M_zero {r : Nat} (h : M r = 0) : r = 0 := by unfold M at h; split at h <;> omega
theorem Nv_zero {r : Nat} (h : Nv r = 0) : r = 0 := by
  unfold Nv at h
  rcases Nat.mul_eq_zero.1 h with h | h
  · exact M_zero h
  · exact absurd h (Nat.ne_of_gt (Nat.two_pow_pos _))

theorem log2_mul_pow (m k : Nat) (h : m ≠ 0) : (m * 2 ^ k).log2 = m.log2 + k := by
  induction k with
  | zero => simp
  | succ k ih => rw [Nat.pow_succ, ← Nat.mul_assoc, Nat.mul_comm _ 2, Nat.log2_two_mul (Nat.mul_ne_zero h (Nat.ne_of_gt (Nat.two_pow_pos k))), ih]; omega
theorem log2_M {r : Nat} (h : 4503599627370496 ≤ r) : (M r).log2 = 52 := by
  have h1 := M_ge h
  have h2 := M_lt r
  have : 52 ≤ (M r).log2 := (Nat.le_log2 (by omega)).2 (by simpa using h1)
  have : (M r).log2 < 53 := (Nat.log2_lt (by omega)).2 (by simpa using h2)
  omega
theorem log2_small {r : Nat} (h : r < 4503599627370496) : r.log2 < 52 := by
  by_cases h0 : r = 0
  · subst h0; decide
  · exact (Nat.log2_lt h0).2 (by simpa using h)

theorem cut_zero (neg : Bool) (n : Nat) : Toward.even.cut neg n 0 = n := by
  unfold Toward.cut
  simp [Nat.mod_one]
theorem cut_exact (neg : Bool) (m d : Nat) (h : m ≠ 0) : Toward.even.cut neg (m * 2 ^ d) d = m := by
  unfold Toward.cut
  have h1 : min d ((m * 2 ^ d).log2 + 2) = d := by rw [log2_mul_pow m d h]; omega
  have hp : 0 < 2 ^ d := Nat.two_pow_pos d
  simp only [h1, Nat.one_shiftLeft, Nat.mul_mod_left, Nat.mul_div_cancel _ hp]
  have e1 : (decide (2 ^ d < 2 * 0)) = false := by simp
  have e2 : (2 ^ d == 2 * 0) = false := by rw [beq_eq_false_iff_ne]; omega
  rw [e1, e2]
  simp

/-- THE EXACT CASE: a number that is a rung's is rounded to that rung. s: so many binary digits more, so that both are whole. -/
theorem nearest_of (neg : Bool) (r : Nat) (hr : r < 9218868437227405312) (mag : Nat) (place : Int) (s : Nat) (hs : 0 ≤ place + 1074 + s) (he : mag * 2 ^ (place + 1074 + s).toNat = Nv r * 2 ^ s) :
    double.nearest neg mag place = double.word neg r := by
  unfold Format.nearest
  by_cases hm : mag = 0
  · subst hm
    rw [Nat.zero_mul] at he
    have h0 : Nv r = 0 := by
      rcases Nat.mul_eq_zero.1 he.symm with h | h
      · exact h
      · exact absurd h (Nat.ne_of_gt (Nat.two_pow_pos _))
    rw [if_pos rfl, Nv_zero h0]
  · rw [if_neg hm]
    obtain ⟨t, ht⟩ : ∃ t : Nat, place + 1074 + s = t := ⟨(place + 1074 + s).toNat, by omega⟩
    rw [ht, Int.toNat_natCast] at he
    have hM : M r ≠ 0 := by
      intro h
      rw [Nv, h, Nat.zero_mul, Nat.zero_mul] at he
      rcases Nat.mul_eq_zero.1 he with h1 | h1
      · exact hm h1
      · exact absurd h1 (Nat.ne_of_gt (Nat.two_pow_pos _))
    have he2 : mag * 2 ^ t = M r * 2 ^ (E r + s) := by rw [he, Nv, Nat.pow_add, Nat.mul_assoc]
    have hl : mag.log2 + t = (M r).log2 + (E r + s) := by
      rw [← log2_mul_pow mag t hm, he2, log2_mul_pow _ _ hM]
    have hlast : max (place + (mag.log2 : Int) - (double.fractionBits : Int)) double.leastPlace = (E r : Int) - 1074 := by
      rw [c_place]
      show max (place + (mag.log2 : Int) - 52) (-1074) = _
      by_cases h52 : 4503599627370496 ≤ r
      · have := log2_M h52
        omega
      · have e0 : E r = 0 := by unfold E; rw [if_pos (by omega)]
        have em : M r = r := by unfold M; rw [if_pos (by omega)]
        have := log2_small (r := r) (by omega)
        rw [em] at hl
        omega
    simp only [hlast]
    have hrung : ((E r : Int) - 1074 - double.leastPlace).toNat = E r := by rw [c_place]; omega
    rw [hrung, c_binade, c_inf]
    have hkept : Toward.even.cut neg (mag <<< (place - ((E r : Int) - 1074)).toNat) ((E r : Int) - 1074 - place).toNat = M r := by
      by_cases hp : (E r : Int) - 1074 ≤ place
      · have e0 : ((E r : Int) - 1074 - place).toNat = 0 := by omega
        rw [e0, cut_zero, Nat.shiftLeft_eq]
        obtain ⟨k, hk⟩ : ∃ k : Nat, place - ((E r : Int) - 1074) = k := ⟨(place - ((E r : Int) - 1074)).toNat, by omega⟩
        rw [hk, Int.toNat_natCast]
        have hts : t = k + (E r + s) := by omega
        rw [hts, Nat.pow_add, ← Nat.mul_assoc] at he2
        exact Nat.eq_of_mul_eq_mul_right (Nat.two_pow_pos _) he2
      · have e0 : (place - ((E r : Int) - 1074)).toNat = 0 := by omega
        obtain ⟨k, hk⟩ : ∃ k : Nat, (E r : Int) - 1074 - place = k := ⟨((E r : Int) - 1074 - place).toNat, by omega⟩
        rw [e0, hk, Int.toNat_natCast, Nat.shiftLeft_zero]
        have hts : E r + s = k + t := by omega
        rw [hts, Nat.pow_add, ← Nat.mul_assoc] at he2
        have hmag := Nat.eq_of_mul_eq_mul_right (Nat.two_pow_pos _) he2
        rw [hmag]
        exact cut_exact neg _ _ hM
    rw [hkept, EM, Nat.min_eq_left (by omega)]

theorem sg_word (neg : Bool) (r : Nat) (h : r < 9223372036854775808) : sg (double.word neg r) = neg := by
  unfold sg Format.word; rw [c_sign]
  cases neg
  · have : r / 9223372036854775808 = 0 := by omega
    simp [this]
  · have : (9223372036854775808 + r) / 9223372036854775808 = 1 := by omega
    simp [this]
theorem rg_word (neg : Bool) (r : Nat) (h : r < 9223372036854775808) : rg (double.word neg r) = r := by
  unfold rg Format.word; rw [c_sign]
  cases neg <;> simp <;> omega
theorem word_of (w : Nat) (h : w < 18446744073709551616) : double.word (sg w) (rg w) = w := by
  unfold Format.word sg rg; rw [c_sign]
  by_cases hw : w < 9223372036854775808
  · have : w / 9223372036854775808 = 0 := by omega
    simp [this]; omega
  · have : w / 9223372036854775808 = 1 := by omega
    simp [this]; omega

/-- bigger rungs are bigger numbers -/
theorem Nv_lt {r r' : Nat} (h : r < r') : Nv r < Nv r' := by
  have h1 := EM r
  have h2 := EM r'
  have m1 := M_lt r
  have m2 := M_lt r'
  unfold Nv
  by_cases he : E r = E r'
  · rw [he]
    exact Nat.mul_lt_mul_of_pos_right (by rw [he] at h1; omega) (Nat.two_pow_pos _)
  · have hE : E r < E r' := by
      rcases Nat.lt_or_gt_of_ne he with h3 | h3
      · exact h3
      · have := E_pos (r := r) (by omega); omega
    have h4 := E_pos (r := r') (by omega)
    calc M r * 2 ^ E r < 9007199254740992 * 2 ^ E r := Nat.mul_lt_mul_of_pos_right m1 (Nat.two_pow_pos _)
      _ = 4503599627370496 * 2 ^ (E r + 1) := by rw [Nat.pow_succ]; omega
      _ ≤ 4503599627370496 * 2 ^ E r' := Nat.mul_le_mul_left _ (Nat.pow_le_pow_right (by omega) hE)
      _ ≤ M r' * 2 ^ E r' := Nat.mul_le_mul_right _ h4
theorem Nv_inj {r r' : Nat} (h : Nv r = Nv r') : r = r' := by
  rcases Nat.lt_trichotomy r r' with h1 | h1 | h1
  · have := Nv_lt h1; omega
  · exact h1
  · have := Nv_lt h1; omega

/-- each number of at most 53 digits, and not too great, is a rung's -/
theorem rung_of (m j : Nat) (hm : m < 9007199254740992) (hl : m = 0 ∨ m.log2 + j < 2098) : ∃ r, r < 9218868437227405312 ∧ Nv r = m * 2 ^ j := by
  by_cases h0 : m = 0
  · exact ⟨0, by omega, by subst h0; simp [Nv, M]⟩
  · have hl := hl.resolve_left h0
    have hlm : m.log2 < 53 := (Nat.log2_lt h0).2 (by simpa using hm)
    by_cases hs : m.log2 + j < 52
    · have hlt : m * 2 ^ j < 4503599627370496 := by
        have := (Nat.log2_lt (n := m * 2 ^ j) (k := 52) (Nat.mul_ne_zero h0 (Nat.ne_of_gt (Nat.two_pow_pos j)))).1 (by rw [log2_mul_pow m j h0]; exact hs)
        simpa using this
      refine ⟨m * 2 ^ j, by omega, ?_⟩
      unfold Nv M E
      rw [if_pos hlt, if_pos hlt, Nat.pow_zero, Nat.mul_one]
    · -- the exponent, and the mantissa brought to 53 digits
      obtain ⟨e, he⟩ : ∃ e, m.log2 + j = 52 + e := ⟨m.log2 + j - 52, by omega⟩
      obtain ⟨d, hd⟩ : ∃ d, m.log2 + d = 52 := ⟨52 - m.log2, by omega⟩
      have hj : j = d + e := by omega
      have hlo : 4503599627370496 ≤ m * 2 ^ d := by
        have := (Nat.le_log2 (n := m * 2 ^ d) (k := 52) (Nat.mul_ne_zero h0 (Nat.ne_of_gt (Nat.two_pow_pos d)))).1 (by rw [log2_mul_pow m d h0]; omega)
        simpa using this
      have hhi : m * 2 ^ d < 9007199254740992 := by
        have := (Nat.log2_lt (n := m * 2 ^ d) (k := 53) (Nat.mul_ne_zero h0 (Nat.ne_of_gt (Nat.two_pow_pos d)))).1 (by rw [log2_mul_pow m d h0]; omega)
        simpa using this
      refine ⟨(e + 1) * 4503599627370496 + (m * 2 ^ d - 4503599627370496), by omega, ?_⟩
      have hE : E ((e + 1) * 4503599627370496 + (m * 2 ^ d - 4503599627370496)) = e := by unfold E; rw [if_neg (by omega)]; omega
      have hMM : M ((e + 1) * 4503599627370496 + (m * 2 ^ d - 4503599627370496)) = m * 2 ^ d := by unfold M; rw [if_neg (by omega)]; omega
      rw [Nv, hE, hMM, hj, Nat.pow_add, Nat.mul_assoc]

/-! ### what is done to words -/
/-- a finite word as a whole number of 2^-1074ths, with its sign -/
def Zv (w : Nat) : Int := if sg w then -(Nv (rg w) : Int) else (Nv (rg w) : Int)
def fin (w : Nat) : Prop := rg w < 9218868437227405312

theorem compare_mul (a b : Int) (c : Int) (hc : 0 < c) : compare (a * c) (b * c) = compare a b := by
  rcases Int.lt_trichotomy a b with h | h | h
  · rw [Int.compare_eq_lt.2 h, Int.compare_eq_lt.2 (Int.mul_lt_mul_of_pos_right h hc)]
  · subst h; rw [Int.compare_eq_eq.2 rfl, Int.compare_eq_eq.2 rfl]
  · rw [Int.compare_eq_gt.2 h, Int.compare_eq_gt.2 (Int.mul_lt_mul_of_pos_right h hc)]
theorem signed_scale (s : Bool) (m d b : Nat) : signed s m d * (2 ^ b : Nat) = if s then -((m * 2 ^ (d + b) : Nat) : Int) else ((m * 2 ^ (d + b) : Nat) : Int) := by
  unfold signed
  rw [Nat.shiftLeft_eq, Nat.pow_add, ← Nat.mul_assoc]
  cases s
  · simp
  · simp [Int.neg_mul]
theorem order_fin {x y : Nat} (hx : fin x) (hy : fin y) : double.order x y = some (compare (Zv x) (Zv y)) := by
  unfold Format.order
  rw [read_fin hx, read_fin hy]
  simp only [Datum.order]
  congr 1
  obtain ⟨b, hb⟩ : ∃ b, b = min (E (rg x)) (E (rg y)) := ⟨_, rfl⟩
  have h1 : (-1074 + (E (rg x) : Int) - min (-1074 + (E (rg x) : Int)) (-1074 + (E (rg y) : Int))).toNat = E (rg x) - b := by omega
  have h2 : (-1074 + (E (rg y) : Int) - min (-1074 + (E (rg x) : Int)) (-1074 + (E (rg y) : Int))).toNat = E (rg y) - b := by omega
  rw [h1, h2, ← compare_mul _ _ (2 ^ b : Nat) (by exact_mod_cast Nat.two_pow_pos b), signed_scale, signed_scale, show E (rg x) - b + b = E (rg x) by omega, show E (rg y) - b + b = E (rg y) by omega]
  rfl

theorem fin_word (neg : Bool) {r : Nat} (h : r < 9218868437227405312) : fin (double.word neg r) := by
  unfold fin; rw [rg_word neg r (by omega)]; exact h
theorem Zv_pos {r : Nat} (h : r < 9218868437227405312) : Zv (double.word false r) = Nv r := by
  unfold Zv; rw [sg_word false r (by omega), rg_word false r (by omega)]; rfl

theorem read_word (neg : Bool) {r : Nat} (h : r < 9218868437227405312) : double.read (double.word neg r) = .number neg (M r) (-1074 + (E r : Int)) := by
  rw [read_fin (fin_word neg h), sg_word neg r (by omega), rg_word neg r (by omega)]

theorem read_two : double.read 4611686018427387904 = .number false 4503599627370496 (-51) := by decide
theorem mul_two {r q : Nat} (hr : r < 9218868437227405312) (hq : q < 9218868437227405312) (h : Nv q = 2 * Nv r) : double.mul (double.word false r) 4611686018427387904 = some (double.word false q) := by
  unfold Format.mul
  rw [read_word false hr, read_two]
  simp only [Datum.product, Option.map_some, Format.write]
  congr 1
  refine nearest_of _ q hq _ _ 51 (by omega) ?_
  have e : (-1074 + (E r : Int) + -51 + 1074 + (51 : Nat)).toNat = E r := by omega
  rw [e, h]
  unfold Nv
  rw [Nat.mul_right_comm, Nat.mul_comm 2 (M r * 2 ^ E r), Nat.mul_assoc (M r * 2 ^ E r)]
theorem div_two {r q : Nat} (hr : r < 9218868437227405312) (hq : q < 9218868437227405312) (h : Nv r = 2 * Nv q) : double.div (double.word false r) 4611686018427387904 = some (double.word false q) := by
  unfold Format.div
  rw [read_word false hr, read_two]
  simp only [Datum.quotient]
  rw [if_neg (by decide)]
  simp only [Option.map_some, Format.write]
  congr 1
  have hl : (4503599627370496 : Nat).log2 = 52 := by decide
  have hm : (M r).log2 ≤ 52 := by
    by_cases h0 : M r = 0
    · rw [h0]; decide
    · have := (Nat.log2_lt (k := 53) h0).2 (by simpa using M_lt r); omega
  obtain ⟨k, hk⟩ : ∃ k, double.fractionBits + 2 + (4503599627370496 : Nat).log2 - (M r).log2 = k + 52 := ⟨54 - (M r).log2, by rw [hl]; show 52 + 2 + 52 - _ = _; omega⟩
  have hk54 : k ≤ 54 := by rw [hl] at hk; have : double.fractionBits = 52 := rfl; omega
  rw [hk, Nat.shiftLeft_eq]
  have hdiv : M r * 2 ^ (k + 52) / 4503599627370496 = M r * 2 ^ k := by
    rw [Nat.pow_add, ← Nat.mul_assoc]; exact Nat.mul_div_cancel _ (by omega)
  have hmod : M r * 2 ^ (k + 52) % 4503599627370496 = 0 := by
    rw [Nat.pow_add, ← Nat.mul_assoc]; exact Nat.mul_mod_left _ _
  rw [hdiv, hmod]
  refine nearest_of _ q hq _ _ (k + 3) (by omega) ?_
  have e : (-1074 + (E r : Int) - -51 - ((k + 52 : Nat) : Int) - 1 + 1074 + ((k + 3 : Nat) : Int)).toNat = E r + 1 := by omega
  rw [e]
  have h' : M r * 2 ^ E r = 2 * Nv q := h
  have e2 : (2 * (M r * 2 ^ k) + ((0 : Nat) != 0).toNat) * 2 ^ (E r + 1) = (M r * 2 ^ E r) * 2 ^ (k + 2) := by
    simp only [bne_self_eq_false, Bool.toNat_false, Nat.add_zero, Nat.pow_add]
    have : (2 : Nat) ^ 1 = 2 := rfl
    have h4 : (2 : Nat) ^ 2 = 4 := rfl
    rw [this, h4]
    generalize 2 ^ k = a
    generalize 2 ^ E r = c
    rw [show 2 * (M r * a) * (c * 2) = (M r * c) * (a * 4) by
      have : 2 * (M r * a) * (c * 2) = (M r * a * c) * 4 := by
        rw [Nat.mul_assoc 2, Nat.mul_comm c 2, ← Nat.mul_assoc (M r * a) 2 c, Nat.mul_comm (M r * a) 2, Nat.mul_assoc 2 (M r * a) c, ← Nat.mul_assoc 2 2, Nat.mul_comm (2 * 2)]
      rw [this, Nat.mul_assoc (M r), Nat.mul_comm a c, ← Nat.mul_assoc (M r), Nat.mul_assoc (M r * c)]]
  rw [e2, h', Nat.pow_succ 2 (k + 2), Nat.mul_comm 2 (Nv q), Nat.mul_assoc, Nat.mul_comm 2 (2 ^ (k + 2))]

end Go.Proofs.YtibifcchmccknaaDoor.Fl
