/- Doubles, third part: exact sums, differences, products, halves; whole numbers as doubles. Plain mathematics, no program. -/
import Derived.Test.YtibifcchmccknaaDoorFloat2
import Derived.Laws.FloatArith
namespace Go.Proofs.YtibifcchmccknaaDoor.Fl
open Ieee

theorem Zv_word (s : Bool) {r : Nat} (h : r < 9218868437227405312) : Zv (double.word s r) = if s then -(Nv r : Int) else (Nv r : Int) := by
  unfold Zv; rw [sg_word s r (by omega), rg_word s r (by omega)]
theorem natAbs_Zv (w : Nat) : (Zv w).natAbs = Nv (rg w) := by
  unfold Zv; split <;> omega
theorem Zv_scale (x : Nat) (d b : Nat) (h : d + b = E (rg x)) : signed (sg x) (M (rg x)) d * ((2 ^ b : Nat) : Int) = Zv x := by
  rw [signed_scale, h]
  rfl

theorem add_exact {x y q : Nat} (hx : fin x) (hy : fin y) (hq : q < 9218868437227405312) (h : (Zv x + Zv y).natAbs = Nv q) :
    double.add x y = some (double.word (if Zv x + Zv y = 0 then sg x && sg y else decide (Zv x + Zv y < 0)) q) := by
  unfold Format.add
  rw [read_fin hx, read_fin hy]
  simp only [Datum.sum, Option.map_some, Format.write]
  obtain ⟨b, hb⟩ : ∃ b, b = min (E (rg x)) (E (rg y)) := ⟨_, rfl⟩
  have hbase : min (-1074 + (E (rg x) : Int)) (-1074 + (E (rg y) : Int)) = -1074 + (b : Int) := by omega
  rw [hbase]
  have h1 : (-1074 + (E (rg x) : Int) - (-1074 + (b : Int))).toNat = E (rg x) - b := by omega
  have h2 : (-1074 + (E (rg y) : Int) - (-1074 + (b : Int))).toNat = E (rg y) - b := by omega
  rw [h1, h2]
  obtain ⟨T, hT⟩ : ∃ T, signed (sg x) (M (rg x)) (E (rg x) - b) + signed (sg y) (M (rg y)) (E (rg y) - b) = T := ⟨_, rfl⟩
  have hs : T * ((2 ^ b : Nat) : Int) = Zv x + Zv y := by
    rw [← hT, Int.add_mul, Zv_scale x _ b (by omega), Zv_scale y _ b (by omega)]
  have hp : (0 : Int) < ((2 ^ b : Nat) : Int) := by exact_mod_cast Nat.two_pow_pos b
  rw [hT]
  have e0 : (T = 0) = (Zv x + Zv y = 0) := by
    rw [← hs]
    refine propext ⟨fun h => by rw [h, Int.zero_mul], fun h => ?_⟩
    rcases Int.mul_eq_zero.1 h with h | h
    · exact h
    · omega
  have e1 : (T < 0) = (Zv x + Zv y < 0) := by
    rw [← hs]
    refine propext ⟨fun h => Int.mul_neg_of_neg_of_pos h hp, fun h => ?_⟩
    rcases Int.lt_or_le T 0 with h3 | h3
    · exact h3
    · have := Int.mul_nonneg h3 (Int.le_of_lt hp)
      omega
  simp only [e0, e1]
  congr 1
  refine nearest_of _ q hq _ _ 0 (by omega) ?_
  rw [Nat.pow_zero, Nat.mul_one, ← h, ← hs, Int.natAbs_mul, Int.natAbs_natCast, show (-1074 + (b : Int) + 1074 + ((0 : Nat) : Int)).toNat = b by omega]

theorem sub_as_add {x y : Nat} (hy : fin y) : double.sub x y = double.add x (double.word (!sg y) (rg y)) := by
  unfold Format.sub Format.add
  rw [read_word _ hy, read_fin hy]
  rfl
theorem Zv_opp {y : Nat} (hy : fin y) : Zv (double.word (!sg y) (rg y)) = -Zv y := by
  rw [Zv_word _ hy]
  unfold Zv
  cases sg y <;> simp

theorem mul_exact {x y q : Nat} (hx : fin x) (hy : fin y) (hq : q < 9218868437227405312) (h : Nv (rg x) * Nv (rg y) = Nv q * U) :
    double.mul x y = some (double.word (sg x ^^ sg y) q) := by
  unfold Format.mul
  rw [read_fin hx, read_fin hy]
  simp only [Datum.product, Option.map_some, Format.write]
  congr 1
  refine nearest_of _ q hq _ _ B (by rw [B_eq]; omega) ?_
  rw [← U_eq, ← h, show (-1074 + (E (rg x) : Int) + (-1074 + (E (rg y) : Int)) + 1074 + (B : Int)).toNat = E (rg x) + E (rg y) by rw [B_eq]; omega]
  unfold Nv
  rw [Nat.pow_add, Nat.mul_mul_mul_comm]

theorem div_two_any (s : Bool) {r q : Nat} (hr : r < 9218868437227405312) (hq : q < 9218868437227405312) (h : Nv r = 2 * Nv q) : double.div (double.word s r) 4611686018427387904 = some (double.word s q) := by
  have h1 := div_two hr hq h
  cases s
  · exact h1
  · unfold Format.div at h1 ⊢
    rw [read_word false hr, read_two] at h1
    rw [read_word true hr, read_two]
    simp only [Datum.quotient] at h1 ⊢
    rw [if_neg (by decide)] at h1 ⊢
    simp only [Option.map_some, Format.write, Option.some.injEq, Bool.xor_false] at h1 ⊢
    unfold Format.nearest at h1 ⊢
    split at h1
    · rw [if_pos (by assumption)]
      unfold Format.word at h1 ⊢
      simp at h1 ⊢
      exact h1.symm
    · rw [if_neg (by assumption)]
      unfold Format.word at h1 ⊢
      have e : ∀ n d, Toward.even.cut true n d = Toward.even.cut false n d := fun n d => rfl
      simp only [Bool.false_eq_true, if_false, if_true, e] at h1 ⊢
      rw [h1]

/-- whole numbers -/
theorem flt_spec (n : Int) (h : n.natAbs < 9007199254740992) : ∃ q, q < 9218868437227405312 ∧ Nv q = n.natAbs * U ∧ floatOfInt .f64 n = double.word (decide (n < 0)) q := by
  obtain ⟨q, hq, hv⟩ := unit_rung n.natAbs h
  exact ⟨q, hq, hv, write_unit _ hq hv⟩
theorem flt_num (n : Int) (h : n.natAbs < 9007199254740992) : fin (floatOfInt .f64 n) ∧ Zv (floatOfInt .f64 n) = n * (U : Int) ∧ sg (floatOfInt .f64 n) = decide (n < 0) ∧ Nv (rg (floatOfInt .f64 n)) = n.natAbs * U := by
  obtain ⟨q, hq, hv, he⟩ := flt_spec n h
  rw [he]
  refine ⟨fin_word _ hq, ?_, sg_word _ _ (by omega), by rw [rg_word _ _ (by omega), hv]⟩
  rw [Zv_word _ hq, hv]
  rcases Int.lt_or_le n 0 with h1 | h1
  · rw [decide_eq_true h1, if_pos rfl, Int.natCast_mul, ← Int.neg_mul, show -(n.natAbs : Int) = n by omega]
  · rw [decide_eq_false (by omega), if_neg (by simp), Int.natCast_mul, show (n.natAbs : Int) = n by omega]

theorem unit_zero (n : Int) : (n * (U : Int) = 0) = (n = 0) := by
  have := U_pos
  refine propext ⟨fun h => ?_, fun h => by rw [h, Int.zero_mul]⟩
  rcases Int.mul_eq_zero.1 h with h | h
  · exact h
  · omega
theorem unit_neg (n : Int) : (n * (U : Int) < 0) = (n < 0) := by
  have hp : (0 : Int) < (U : Int) := by exact_mod_cast U_pos
  refine propext ⟨fun h => ?_, fun h => Int.mul_neg_of_neg_of_pos h hp⟩
  rcases Int.lt_or_le n 0 with h3 | h3
  · exact h3
  · have := Int.mul_nonneg h3 (Int.le_of_lt hp)
    omega

theorem add_flt (a b : Int) (ha : a.natAbs < 9007199254740992) (hb : b.natAbs < 9007199254740992) (hc : (a + b).natAbs < 9007199254740992) : double.add (floatOfInt .f64 a) (floatOfInt .f64 b) = some (floatOfInt .f64 (a + b)) := by
  obtain ⟨fa, za, sa, _⟩ := flt_num a ha
  obtain ⟨fb, zb, sb, _⟩ := flt_num b hb
  obtain ⟨q, hq, hv, he⟩ := flt_spec (a + b) hc
  have hz : Zv (floatOfInt .f64 a) + Zv (floatOfInt .f64 b) = (a + b) * (U : Int) := by rw [za, zb, Int.add_mul]
  rw [add_exact fa fb hq (by rw [hz, hv, Int.natAbs_mul, Int.natAbs_natCast]), hz, he]
  congr 2
  simp only [unit_zero, unit_neg, sa, sb]
  by_cases h0 : a + b = 0
  · rw [if_pos h0]
    rcases Int.lt_or_le a 0 with h1 | h1
    · rw [decide_eq_true h1, decide_eq_false (show ¬ b < 0 by omega), decide_eq_false (show ¬ a + b < 0 by omega)]; rfl
    · rw [decide_eq_false (show ¬ a < 0 by omega), decide_eq_false (show ¬ a + b < 0 by omega)]; rfl
  · rw [if_neg h0]
theorem sub_flt (a b : Int) (ha : a.natAbs < 9007199254740992) (hb : b.natAbs < 9007199254740992) (hc : (a - b).natAbs < 9007199254740992) : double.sub (floatOfInt .f64 a) (floatOfInt .f64 b) = some (floatOfInt .f64 (a - b)) := by
  obtain ⟨fa, za, sa, _⟩ := flt_num a ha
  obtain ⟨fb, zb, sb, _⟩ := flt_num b hb
  obtain ⟨q, hq, hv, he⟩ := flt_spec (a - b) hc
  have hz : Zv (floatOfInt .f64 a) + Zv (double.word (!sg (floatOfInt .f64 b)) (rg (floatOfInt .f64 b))) = (a - b) * (U : Int) := by rw [Zv_opp fb, za, zb, Int.sub_mul]; omega
  rw [sub_as_add fb, add_exact fa (fin_word _ fb) hq (by rw [hz, hv, Int.natAbs_mul, Int.natAbs_natCast]), hz, he]
  congr 2
  simp only [unit_zero, unit_neg, sa, sb]
  rw [sg_word _ _ (by unfold fin at fb; omega)]
  by_cases h0 : a - b = 0
  · rw [if_pos h0]
    rcases Int.lt_or_le a 0 with h1 | h1
    · rw [decide_eq_true h1, decide_eq_true (show b < 0 by omega), decide_eq_false (show ¬ a - b < 0 by omega)]; rfl
    · rw [decide_eq_false (show ¬ a < 0 by omega), decide_eq_false (show ¬ a - b < 0 by omega)]; rfl
  · rw [if_neg h0]
theorem mul_flt (a b : Int) (ha : a.natAbs < 9007199254740992) (hb : b.natAbs < 9007199254740992) (hc : (a * b).natAbs < 9007199254740992) (a0 : a ≠ 0) (b0 : b ≠ 0) : double.mul (floatOfInt .f64 a) (floatOfInt .f64 b) = some (floatOfInt .f64 (a * b)) := by
  obtain ⟨fa, _, sa, na⟩ := flt_num a ha
  obtain ⟨fb, _, sb, nb⟩ := flt_num b hb
  obtain ⟨q, hq, hv, he⟩ := flt_spec (a * b) hc
  rw [mul_exact fa fb hq (by rw [na, nb, hv, Int.natAbs_mul, Nat.mul_mul_mul_comm, ← Nat.mul_assoc]), he, sa, sb]
  congr 2
  rcases Int.lt_or_gt_of_ne a0 with h1 | h1 <;> rcases Int.lt_or_gt_of_ne b0 with h2 | h2
  · rw [decide_eq_true h1, decide_eq_true h2, decide_eq_false (by have := Int.mul_pos_of_neg_of_neg h1 h2; omega)]; rfl
  · rw [decide_eq_true h1, decide_eq_false (show ¬ b < 0 by omega), decide_eq_true (Int.mul_neg_of_neg_of_pos h1 h2)]; rfl
  · rw [decide_eq_false (show ¬ a < 0 by omega), decide_eq_true h2, decide_eq_true (Int.mul_neg_of_pos_of_neg h1 h2)]; rfl
  · rw [decide_eq_false (show ¬ a < 0 by omega), decide_eq_false (show ¬ b < 0 by omega), decide_eq_false (by have := Int.mul_pos h1 h2; omega)]; rfl
theorem order_flt (a b : Int) (ha : a.natAbs < 9007199254740992) (hb : b.natAbs < 9007199254740992) : double.order (floatOfInt .f64 a) (floatOfInt .f64 b) = some (compare a b) := by
  obtain ⟨fa, za, _, _⟩ := flt_num a ha
  obtain ⟨fb, zb, _, _⟩ := flt_num b hb
  rw [order_fin fa fb, za, zb, compare_mul _ _ _ (by exact_mod_cast U_pos)]

/-- half a whole number -/
theorem half_flt (a : Int) (ha : a.natAbs < 9007199254740992) : ∃ q, q < 9218868437227405312 ∧ 2 * Nv q = a.natAbs * U ∧ double.div (floatOfInt .f64 a) 4611686018427387904 = some (double.word (decide (a < 0)) q) := by
  obtain ⟨p, hp, hv, he⟩ := flt_spec a ha
  obtain ⟨k, hk⟩ : ∃ k, B = k + 1 := ⟨1073, by rw [B_eq]⟩
  obtain ⟨q, hq, hv2⟩ := rung_of a.natAbs k ha (by
    by_cases h0 : a.natAbs = 0
    · exact .inl h0
    · have : a.natAbs.log2 < 53 := (Nat.log2_lt h0).2 (by simpa using ha)
      have := B_eq
      exact .inr (by omega))
  have h2 : 2 * Nv q = a.natAbs * U := by rw [hv2, U_eq, hk, Nat.pow_succ, Nat.mul_comm 2, Nat.mul_assoc]
  exact ⟨q, hq, h2, by rw [he, div_two_any _ hp hq (by rw [hv, h2])]⟩
theorem twice_half (a : Int) (ha : a.natAbs < 9007199254740992) {q : Nat} (hq : q < 9218868437227405312) (h : 2 * Nv q = a.natAbs * U) : double.add (double.word (decide (a < 0)) q) (double.word (decide (a < 0)) q) = some (floatOfInt .f64 a) := by
  obtain ⟨p, hp, hv, he⟩ := flt_spec a ha
  have hf := fin_word (decide (a < 0)) hq
  have hz : Zv (double.word (decide (a < 0)) q) + Zv (double.word (decide (a < 0)) q) = a * (U : Int) := by
    obtain ⟨_, za, _, _⟩ := flt_num a ha
    rw [← za, he, Zv_word _ hq, Zv_word _ hp, hv, ← h]
    split <;> omega
  rw [add_exact hf hf hp (by rw [hz, hv, Int.natAbs_mul, Int.natAbs_natCast]), hz, he]
  congr 2
  simp only [unit_zero, unit_neg]
  rw [sg_word _ _ (by omega)]
  by_cases h0 : a = 0
  · subst h0; rfl
  · rw [if_neg h0]
/-- so many whole units has a half -/
theorem Iv_half {a q : Nat} (h : 2 * Nv q = a * U) : Iv q = a / 2 := by
  unfold Iv
  have hU := U_pos
  have h1 : Nv q / U = (2 * Nv q) / (2 * U) := (Nat.mul_div_mul_left _ _ (by omega)).symm
  rw [h1, h, Nat.mul_comm 2 U, ← Nat.div_div_eq_div_mul, Nat.mul_div_cancel _ hU]

end Go.Proofs.YtibifcchmccknaaDoor.Fl
