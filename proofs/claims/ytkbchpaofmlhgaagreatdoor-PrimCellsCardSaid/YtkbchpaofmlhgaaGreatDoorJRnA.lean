import Derived.Test.YtkbchpaofmlhgaaGreatDoorJLongA
import Derived.Test.YtkbchpaofmlhgaaGreatDoorJFloatA
import Derived.Test.YtkbchpaofmlhgaaGreatDoorReals7
import Derived.ProofKit
/- rhytonref02.UMul: the product of two cells, bit by bit. -/
namespace Go.Proofs.YtkbchpaofmlhgaaGreatDoor
open Go.RowKit

theorem bits_wrap64 (f : Int) : IntKind.u64.wrap f = (bitsOf f : Int) := by rw [IntKind.wrap_u64, bitsOf_cast]
theorem bits_id (a : Nat) (h : a < 18446744073709551616) : pl a = cellOf a ∧ ph a = 0 := p_small a h
theorem cell_small (a : Nat) (h : a < 18446744073709551616) : a < 18446744073709551616 ∧ cellOf a = pl a := ⟨h, (p_small a h).1.symm⟩

theorem mul_step (a b j x : Nat) (hx : a / 2 ^ j % 2 = x) : a / 2 ^ j * b = a / 2 ^ (j + 1) * b + a / 2 ^ (j + 1) * b + x * b := by
  have h : a / 2 ^ j = 2 * (a / 2 ^ (j + 1)) + x := by
    rw [Nat.pow_succ, ← Nat.div_div_eq_div_mul, ← hx]
    omega
  rw [h, Nat.add_mul, Nat.two_mul, Nat.add_mul]
theorem mul_lt128 (x y : Nat) (hx : x < 18446744073709551616) (hy : y < 18446744073709551616) : x * y < 340282366920938463463374607431768211456 :=
  Nat.lt_of_le_of_lt (Nat.mul_le_mul (Nat.le_sub_one_of_lt hx) (Nat.le_sub_one_of_lt hy)) (by decide)

set_option maxRecDepth 100000 in
set_option maxHeartbeats 3200000 in
theorem umul_any (a b : Nat) (ha : a < 18446744073709551616) (hb : b < 18446744073709551616) (w : World) :
    Calls Tryz.prog 91 #[.int .i64 (pl a), .int .i64 (pl b)] w fun e w' => e = .returned (.agg (two (a * b))) ∧ Touch [] w w' := by
  have hcv : IntKind.u64.wrap (pl a) = (a : Int) := by rw [(p_small a ha).1, bits_wrap64, bits_cell a ha]
  have htw := fun x r (hx : x < 340282366920938463463374607431768211456) hr W => twice_p x hx r hr W
  have hadd := fun x r (hx : x < 340282366920938463463374607431768211456) hr W => add_p x b hx (by omega) r hr W
  rw [(p_small b hb).2] at hadd
  unfold two
  go_enter Tryz.func91, Tryz.ntmps91
  go_upto_region 3 with (fail)
  have bR := (Blk.new w 38 #[.int .i64 0, .int .i64 0]).alloc (.cells #[.int .i64 0, .int .i64 0] 38)
  have bP := Blk.new_at (n := w.heap.size + 1) (w.alloc (.cells #[.int .i64 0, .int .i64 0] 38)) (by simp) 38 #[.int .i64 0, .int .i64 0]
  have tw := ((Touch.refl [] w).alloc (.cells #[.int .i64 0, .int .i64 0] 38)).alloc (.cells #[.int .i64 0, .int .i64 0] 38)
  generalize (w.alloc (.cells #[.int .i64 0, .int .i64 0] 38)).alloc (.cells #[.int .i64 0, .int .i64 0] 38) = wA at *
  go_wp2_with fail
  go_loopw [7] (fun i wr => ∃ (j : Nat), j ≤ 64 ∧ i = .int .i64 ((j : Int) - 1) ∧ Blk wr w.heap.size 38 #[.int .i64 0, .int .i64 0] ∧ Blk wr (w.heap.size + 1) 38 (two (a / 2 ^ j * b)) ∧ Touch [] w wr) (fun i _ => (intOf i + 1).toNat)
  case atStart =>
    refine ⟨64, by omega, rfl, bR, ?_, tw⟩
    rw [Nat.div_eq_of_lt (by simpa using ha), Nat.zero_mul]
    exact bP
  case round =>
    obtain ⟨j, hj, rfl, bR, bP, tw⟩ := hrel
    have p0 := bP.cell 0
    have p1 := bP.cell 1
    have fp0 := bP.frozen 0
    have fp1 := bP.frozen 1
    rcases j with _ | j
    · have r0 := bR.cell 0
      have r1 := bR.cell 1
      have fr0 := bR.frozen 0
      have fr1 := bR.frozen 1
      rw [Nat.pow_zero, Nat.div_one] at p0 p1
      go_wp2_with fail
      obtain ⟨z0, z1⟩ := two_back bR (.int .i64 (pl (a * b))) (.int .i64 (ph (a * b)))
      refine bodyPost_ret (by simp [results, Tryz.results91, go_sem, z0, z1]; try rfl) rfl ⟨rfl, ?_⟩
      exact (tw.setCell (.inr (by simp)) _).setCell (.inr (by simp)) _
    · have hj63 : j ≤ 63 := by omega
      have e1 : ((j + 1 : Nat) : Int) - 1 = j := by omega
      rw [e1]
      obtain ⟨x, hx⟩ : ∃ x, a / 2 ^ j % 2 = x := ⟨_, rfl⟩
      have hst := mul_step a b j x hx
      have hx1 : x ≤ 1 := by omega
      have hshr : ((a : Int) / 2 ^ j).tmod 2 = (x : Int) := by
        rw [← hx]
        exact (Int.tmod_eq_emod_of_nonneg (Int.ediv_nonneg (by omega) (Int.le_of_lt (Int.pow_pos (by omega))))).trans (by simp)
      have hlt : a / 2 ^ j * b < 340282366920938463463374607431768211456 := mul_lt128 _ _ (Nat.lt_of_le_of_lt (Nat.div_le_self _ _) ha) hb
      obtain ⟨O, hO⟩ : ∃ O, a / 2 ^ (j + 1) * b = O := ⟨_, rfl⟩
      obtain ⟨O2, hO2⟩ : ∃ O, a / 2 ^ j * b = O := ⟨_, rfl⟩
      rw [hO] at p0 p1 hst bP
      rw [hO2] at hst hlt
      have HX := Lib.hid hx
      have HO := Lib.hid hO
      have HO2 := Lib.hid hO2
      clear hx hO hO2 e1
      have hO128 : O < 340282366920938463463374607431768211456 := by omega
      go_wp2_with fail
      refine (htw O (O + O) hO128 (by omega) _).mono ?_
      rintro _ w1 ⟨rfl, t1⟩
      clear p0 p1 fp0 fp1
      have bR := bR.touch t1 (by simp)
      have bP := bP.touch t1 (by simp)
      have tw := tw.trans t1 (by simp)
      clear t1
      have fp0 := bP.frozen 0
      have fp1 := bP.frozen 1
      have p0 := bP.cell 0
      have p1 := bP.cell 1
      go_upto_region 7 with (fail)
      have bP := bP.two_set (.int .i64 (pl (O + O))) (.int .i64 (ph (O + O)))
      have bR := bR.two_far (b := w.heap.size + 1) (by omega) (.int .i64 (pl (O + O))) (.int .i64 (ph (O + O)))
      have tw := (tw.setCell (p := ⟨w.heap.size + 1, 0, none⟩) (.inr (by simp)) (.int .i64 (pl (O + O)))).setCell (p := ⟨w.heap.size + 1, 1, none⟩) (.inr (by simp)) (.int .i64 (ph (O + O)))
      clear p0 p1 fp0 fp1
      generalize (w1.setCell ⟨w.heap.size + 1, 0, none⟩ (.int .i64 (pl (O + O)))).setCell ⟨w.heap.size + 1, 1, none⟩ (.int .i64 (ph (O + O))) = w2 at *
      have fp0 := bP.frozen 0
      have fp1 := bP.frozen 1
      have p0 := bP.cell 0
      have p1 := bP.cell 1
      rcases x with _ | _ | x
      · rw [Nat.zero_mul, Nat.add_zero] at hst
        have hshr : ((a : Int) / 2 ^ j).tmod 2 = 0 := hshr
        have hb0 : ((0 : Int) == 1) = false := rfl
        go_wp2_with fail
        refine ⟨⟨j, by omega, rfl, bR, ?_, tw⟩, ?_⟩
        · rw [HO2.out, hst]; exact bP
        · show ((j : Int) - 1 + 1).toNat < ((j : Int) + 1).toNat; omega
      · rw [Nat.zero_add, Nat.one_mul] at hst
        have hshr : ((a : Int) / 2 ^ j).tmod 2 = 1 := hshr
        go_wp2_with fail
        refine (hadd (O + O) O2 (by omega) (by omega) _).mono ?_
        rintro _ w3 ⟨rfl, t1⟩
        clear p0 p1 fp0 fp1
        have bR := bR.touch t1 (by simp)
        have bP := bP.touch t1 (by simp)
        have tw := tw.trans t1 (by simp)
        clear t1
        have fp0 := bP.frozen 0
        have fp1 := bP.frozen 1
        have p0 := bP.cell 0
        have p1 := bP.cell 1
        go_wp2_with fail
        refine ⟨⟨j, by omega, rfl, bR.two_far (by omega) _ _, ?_, (tw.setCell (.inr (by simp)) _).setCell (.inr (by simp)) _⟩, ?_⟩
        · rw [HO2.out, hst]; exact bP.two_set (.int .i64 (pl (O + O + b))) (.int .i64 (ph (O + O + b)))
        · show ((j : Int) - 1 + 1).toNat < ((j : Int) + 1).toNat; omega
      · exact absurd hx1 (by omega)
end Go.Proofs.YtkbchpaofmlhgaaGreatDoor

/- Rounding to the nearest double: what may be left out of a number, if it is told that something was left out. -/
namespace Go.Proofs.YtkbchpaofmlhgaaGreatDoor
namespace Fl
open Ieee

theorem log2_of {n k : Nat} (h1 : 2 ^ k ≤ n) (h2 : n < 2 ^ (k + 1)) : n.log2 = k := by
  have h0 : n ≠ 0 := by have := Nat.two_pow_pos k; omega
  have a := (Nat.le_log2 h0).2 h1
  have b := (Nat.log2_lt h0).2 h2
  omega
/-- a number without its last d bits, to the nearest one, the even one between two -/
def cutE (n d : Nat) : Nat := n / 2 ^ d + (if 2 ^ d < 2 * (n % 2 ^ d) ∨ (2 ^ d = 2 * (n % 2 ^ d) ∧ n / 2 ^ d % 2 = 1) then 1 else 0)
theorem cut_even (neg : Bool) (n d : Nat) : Toward.even.cut neg n d = cutE n d := by
  have key : ∀ g, g = 2 ^ d → n / g + (g < 2 * (n % g) || (g == 2 * (n % g) && n / g % 2 == 1)).toNat = cutE n d := by
    rintro g rfl
    unfold cutE
    congr 1
    by_cases h1 : 2 ^ d < 2 * (n % 2 ^ d)
    · simp [h1]
    · by_cases h2 : 2 ^ d = 2 * (n % 2 ^ d) ∧ n / 2 ^ d % 2 = 1
      · rw [if_pos (.inr h2)]
        simp [← h2.1, h2.2]
      · rw [if_neg (by rintro (h | h); exact h1 h; exact h2 h)]
        have : (2 ^ d == 2 * (n % 2 ^ d) && n / 2 ^ d % 2 == 1) = false := by
          rw [Bool.and_eq_false_iff]
          by_cases h3 : 2 ^ d = 2 * (n % 2 ^ d)
          · exact .inr (by simp; have := fun h => h2 ⟨h3, h⟩; omega)
          · exact .inl (by simp [h3])
        simp [h1, this]
  unfold Toward.cut
  simp only [Nat.one_shiftLeft]
  rcases Nat.le_total d (n.log2 + 2) with h | h
  · rw [Nat.min_eq_left h]
    exact key _ rfl
  · rw [Nat.min_eq_right h]
    by_cases h0 : n = 0
    · subst h0
      unfold cutE
      simp
    have hlt : n < 2 ^ (n.log2 + 1) := (Nat.log2_lt h0).1 (Nat.lt_succ_self _)
    have hle : 2 ^ (n.log2 + 2) ≤ 2 ^ d := Nat.pow_le_pow_right (by omega) h
    have h2 : 2 ^ (n.log2 + 2) = 2 * 2 ^ (n.log2 + 1) := by rw [Nat.pow_succ 2 (n.log2 + 1), Nat.mul_comm]
    generalize 2 ^ (n.log2 + 1) = A at *
    unfold cutE
    rw [Nat.div_eq_of_lt (show n < 2 ^ (n.log2 + 2) by omega), Nat.mod_eq_of_lt (show n < 2 ^ (n.log2 + 2) by omega), Nat.div_eq_of_lt (show n < 2 ^ d by omega), Nat.mod_eq_of_lt (show n < 2 ^ d by omega)]
    rw [if_neg (by omega), h2]
    have e1 : decide (2 * A < 2 * n) = false := decide_eq_false (by omega)
    have e2 : (2 * A == 2 * n) = false := by rw [beq_eq_false_iff_ne]; omega
    rw [e1, e2]
    rfl
theorem cutE_of {n d q r P : Nat} (h0 : 2 ^ d = P) (h1 : n / P = q) (h2 : n % P = r) : cutE n d = q + if P < 2 * r ∨ (P = 2 * r ∧ q % 2 = 1) then 1 else 0 := by
  subst h0; subst h1; subst h2
  rfl
theorem cutE_double (n d : Nat) : cutE (2 * n) (d + 1) = cutE n d := by
  unfold cutE
  rw [Nat.pow_succ, Nat.mul_comm (2 ^ d) 2, Nat.mul_div_mul_left _ _ (by omega), Nat.mul_mod_mul_left]
  generalize 2 ^ d = P
  generalize n % P = x
  congr 1
  by_cases h : P < 2 * x ∨ (P = 2 * x ∧ n / P % 2 = 1)
  · rw [if_pos h, if_pos (by omega)]
  · rw [if_neg h, if_neg (by omega)]
theorem cutE_step (n f : Nat) : cutE n (f + 3) = cutE (2 * (n / 4) + if n % 4 = 0 then 0 else 1) (f + 2) := by
  obtain ⟨s, hs⟩ : ∃ s, (if n % 4 = 0 then 0 else 1) = s := ⟨_, rfl⟩
  rw [hs]
  have hs1 : (n % 4 = 0 ∧ s = 0) ∨ (n % 4 ≠ 0 ∧ s = 1) := by
    by_cases h : n % 4 = 0
    · rw [if_pos h] at hs; exact .inl ⟨h, hs.symm⟩
    · rw [if_neg h] at hs; exact .inr ⟨h, hs.symm⟩
  obtain ⟨P, hP⟩ : ∃ P, 2 ^ f = P := ⟨_, rfl⟩
  have hP0 : 0 < P := by rw [← hP]; exact Nat.two_pow_pos f
  have e3 : 2 ^ (f + 3) = 8 * P := by rw [Nat.pow_add, hP]; omega
  have e2 : 2 ^ (f + 2) = 4 * P := by rw [Nat.pow_add, hP]; omega
  unfold cutE
  rw [e3, e2]
  obtain ⟨a, r, hr, rfl⟩ : ∃ a r, r < 4 ∧ n = 4 * a + r := ⟨n / 4, n % 4, by omega, by omega⟩
  obtain ⟨q, x, hx, rfl⟩ : ∃ q x, x < 2 * P ∧ a = 2 * P * q + x := ⟨a / (2 * P), a % (2 * P), Nat.mod_lt _ (by omega), (Nat.div_add_mod _ _).symm⟩
  have m4 : (4 * (2 * P * q + x) + r) / 4 = 2 * P * q + x := by omega
  rw [m4]
  have g1 : 4 * (2 * P * q + x) + r = 8 * P * q + (4 * x + r) := by
    have : 8 * P * q = 4 * (2 * P * q) := by rw [← Nat.mul_assoc, ← Nat.mul_assoc]
    omega
  have g2 : 2 * (2 * P * q + x) + s = 4 * P * q + (2 * x + s) := by
    have : 4 * P * q = 2 * (2 * P * q) := by rw [← Nat.mul_assoc, ← Nat.mul_assoc]
    omega
  rw [g1, g2, Nat.mul_add_div (by omega), Nat.mul_add_div (by omega), Nat.mul_add_mod, Nat.mul_add_mod, Nat.div_eq_of_lt (show 4 * x + r < 8 * P by omega), Nat.div_eq_of_lt (show 2 * x + s < 4 * P by omega), Nat.mod_eq_of_lt (show 4 * x + r < 8 * P by omega), Nat.mod_eq_of_lt (show 2 * x + s < 4 * P by omega)]
  have hr0 : (4 * (2 * P * q + x) + r) % 4 = r := by omega
  rw [hr0] at hs1
  congr 1
  by_cases h : 8 * P < 2 * (4 * x + r) ∨ (8 * P = 2 * (4 * x + r) ∧ (q + 0) % 2 = 1)
  · rw [if_pos h, if_pos (by omega)]
  · rw [if_neg h, if_neg (by omega)]

theorem nearest_zero (neg : Bool) (place : Int) : double.nearest neg 0 place = double.word neg 0 := by
  unfold Format.nearest
  rw [if_pos rfl]
/-- where bits go -/
theorem nearest_drop (neg : Bool) {mag : Nat} {place last : Int} {d : Nat} (h0 : mag ≠ 0) (hl : max (place + (mag.log2 : Int) - 52) (-1074) = last) (hd : last - place = d) :
    double.nearest neg mag place = double.word neg (min ((last + 1074).toNat * 4503599627370496 + cutE mag d) 9218868437227405312) := by
  unfold Format.nearest
  rw [if_neg h0]
  simp only [c_place, c_binade, c_inf, cut_even]
  have e : (double.fractionBits : Int) = 52 := rfl
  rw [e, hl, show (place - last).toNat = 0 by omega, Nat.shiftLeft_zero, hd, show ((d : Int)).toNat = d by omega, show last - -1074 = last + 1074 by omega]
theorem nearest_double (neg : Bool) (m : Nat) (p : Int) : double.nearest neg (2 * m) (p - 1) = double.nearest neg m p := by
  by_cases h0 : m = 0
  · subst h0
    rw [nearest_zero, nearest_zero]
  have hlog : (2 * m).log2 = m.log2 + 1 := by
    have h1 : 2 ^ m.log2 ≤ m := Nat.log2_self_le h0
    have h2 : m < 2 ^ (m.log2 + 1) := (Nat.log2_lt h0).1 (Nat.lt_succ_self _)
    refine log2_of ?_ ?_
    · rw [Nat.pow_succ]; omega
    · rw [Nat.pow_succ 2 (m.log2 + 1)]; omega
  unfold Format.nearest
  rw [if_neg h0, if_neg (by omega), hlog]
  simp only [c_place, c_binade, c_inf, cut_even]
  have e : (double.fractionBits : Int) = 52 := rfl
  rw [e]
  obtain ⟨last, hl⟩ : ∃ last, max (p + (m.log2 : Int) - 52) (-1074) = last := ⟨_, rfl⟩
  have hl2 : max (p - 1 + ((m.log2 + 1 : Nat) : Int) - 52) (-1074) = last := by omega
  rw [hl2, hl]
  rcases Int.lt_or_le (last - p) 0 with h | h
  · obtain ⟨k, hk⟩ : ∃ k : Nat, p - last = (k + 1 : Nat) := ⟨(p - last - 1).toNat, by omega⟩
    rw [show (last - (p - 1)).toNat = 0 by omega, show (last - p).toNat = 0 by omega, show (p - 1 - last).toNat = k by omega, show (p - last).toNat = k + 1 by omega, Nat.shiftLeft_eq, Nat.shiftLeft_eq, Nat.pow_succ, show 2 * m * 2 ^ k = m * (2 ^ k * 2) by rw [Nat.mul_comm 2 m, Nat.mul_assoc, Nat.mul_comm 2]]
  · obtain ⟨k, hk⟩ : ∃ k : Nat, last - p = k := ⟨(last - p).toNat, by omega⟩
    rw [show (last - (p - 1)).toNat = k + 1 by omega, show (last - p).toNat = k by omega, show (p - 1 - last).toNat = 0 by omega, show (p - last).toNat = 0 by omega, Nat.shiftLeft_zero, Nat.shiftLeft_zero, cutE_double]
theorem nearest_scale (neg : Bool) (m k : Nat) (p : Int) : double.nearest neg (m * 2 ^ k) (p - k) = double.nearest neg m p := by
  induction k with
  | zero => simp
  | succ k ih =>
    rw [Nat.pow_succ, ← Nat.mul_assoc, Nat.mul_comm (m * 2 ^ k) 2, show p - ((k + 1 : Nat) : Int) = p - k - 1 by omega, nearest_double, ih]
/-- a bit less, told by the last one -/
theorem nearest_step (neg : Bool) (mag : Nat) (place : Int) (h : 36028797018963968 ≤ mag ∨ place < -1076) : double.nearest neg mag place = double.nearest neg (2 * (mag / 4) + if mag % 4 = 0 then 0 else 1) (place + 1) := by
  by_cases h0 : mag = 0
  · subst h0
    rw [nearest_zero, show 2 * (0 / 4) + (if 0 % 4 = 0 then 0 else 1) = 0 from rfl, nearest_zero]
  obtain ⟨s, hs⟩ : ∃ s, (if mag % 4 = 0 then 0 else 1) = s := ⟨_, rfl⟩
  have hs1 : (mag % 4 = 0 ∧ s = 0) ∨ (mag % 4 ≠ 0 ∧ s = 1) := by
    by_cases h : mag % 4 = 0
    · rw [if_pos h] at hs; exact .inl ⟨h, hs.symm⟩
    · rw [if_neg h] at hs; exact .inr ⟨h, hs.symm⟩
  have hne : 2 * (mag / 4) + s ≠ 0 := by omega
  have h1 : 2 ^ mag.log2 ≤ mag := Nat.log2_self_le h0
  have h2 : mag < 2 ^ (mag.log2 + 1) := (Nat.log2_lt h0).1 (Nat.lt_succ_self _)
  rcases Nat.lt_or_ge mag 4 with h4 | h4
  · have hp : place < -1076 := by omega
    have hl1 : mag.log2 ≤ 1 := by
      have := (Nat.log2_lt h0).2 (show mag < 2 ^ 2 by omega)
      omega
    have hm1 : 2 * (mag / 4) + s = 1 := by omega
    obtain ⟨f, hf⟩ : ∃ f : Nat, -1074 - place = (f + 3 : Nat) := ⟨(-1074 - place - 3).toNat, by omega⟩
    rw [nearest_drop neg h0 (last := -1074) (d := f + 3) (by omega) hf, hs, hm1, nearest_drop neg (by omega) (last := -1074) (d := f + 2) (by rw [show Nat.log2 1 = 0 by decide]; omega) (by omega)]
    rw [cutE_step, hs, hm1]
  · obtain ⟨k, hk⟩ : ∃ k, mag.log2 = k + 2 := ⟨mag.log2 - 2, by
      have := (Nat.le_log2 h0).2 (show 2 ^ 2 ≤ mag by omega)
      omega⟩
    rw [hk] at h1 h2
    have hlog : (2 * (mag / 4) + s).log2 = k + 1 := by
      have e1 : 2 ^ (k + 2) = 4 * 2 ^ k := by rw [Nat.pow_add]; omega
      have e2 : 2 ^ (k + 2 + 1) = 8 * 2 ^ k := by rw [Nat.pow_add 2 (k + 2) 1, Nat.pow_add]; omega
      have e3 : 2 ^ (k + 1) = 2 * 2 ^ k := by rw [Nat.pow_add]; omega
      have e4 : 2 ^ (k + 1 + 1) = 4 * 2 ^ k := by rw [Nat.pow_add 2 (k + 1) 1, Nat.pow_add]; omega
      rw [e1] at h1
      rw [e2] at h2
      refine log2_of ?_ ?_
      · rw [e3]; omega
      · rw [e4]; omega
    obtain ⟨last, hl⟩ : ∃ last, max (place + (mag.log2 : Int) - 52) (-1074) = last := ⟨_, rfl⟩
    have hk53 : 36028797018963968 ≤ mag → 53 ≤ k := fun hb => by
      have := (Nat.le_log2 h0).2 (show 2 ^ 55 ≤ mag by omega)
      omega
    obtain ⟨f, hf⟩ : ∃ f : Nat, last - place = (f + 3 : Nat) := ⟨(last - place - 3).toNat, by omega⟩
    rw [nearest_drop neg h0 hl hf, hs, nearest_drop neg hne (last := last) (d := f + 2) (by omega) (by omega), cutE_step, hs]
/-- what lies between two, is as what lies in their midst -/
theorem nearest_between (neg : Bool) (N : Nat) (hN : 18014398509481984 ≤ N) : ∀ (k mag : Nat) (place : Int), N * 2 ^ (k + 1) < mag → mag < (N + 1) * 2 ^ (k + 1) → double.nearest neg mag place = double.nearest neg (2 * N + 1) (place + k)
  | 0, mag, place, h1, h2 => by
    rw [show mag = 2 * N + 1 by omega]
    simp
  | k + 1, mag, place, h1, h2 => by
    obtain ⟨P, hP⟩ : ∃ P, 2 ^ k = P := ⟨_, rfl⟩
    have hP0 : 0 < P := by rw [← hP]; exact Nat.two_pow_pos k
    have e1 : 2 ^ (k + 1 + 1) = 4 * P := by rw [Nat.pow_succ, Nat.pow_succ, hP]; omega
    have e2 : 2 ^ (k + 1) = 2 * P := by rw [Nat.pow_succ, hP]; omega
    rw [e1] at h1 h2
    have hNP : N ≤ N * P := Nat.le_mul_of_pos_right _ hP0
    have g1 : N * (4 * P) = 4 * (N * P) := by rw [Nat.mul_left_comm]
    have g2 : (N + 1) * (4 * P) = 4 * (N * P) + 4 * P := by rw [Nat.add_mul, g1]; omega
    have g3 : N * (2 * P) = 2 * (N * P) := by rw [Nat.mul_left_comm]
    have g4 : (N + 1) * (2 * P) = 2 * (N * P) + 2 * P := by rw [Nat.add_mul, g3]; omega
    rw [g1] at h1
    rw [g2] at h2
    rw [nearest_step neg mag place (.inl (by omega))]
    rw [nearest_between neg N hN k _ (place + 1) (by rw [e2, g3]; split <;> omega) (by rw [e2, g4]; split <;> omega)]
    congr 1
    omega

/-- ROUNDED: so many units, and, perhaps, a bit more -/
def Sr (neg : Bool) (N : Nat) (e : Int) (b : Bool) : Nat := double.nearest neg (2 * N + b.toNat) (e - 1)
theorem Sr_exact (neg : Bool) (N : Nat) (e : Int) : Sr neg N e false = double.nearest neg N e := nearest_double neg N e
theorem Sr_half (neg : Bool) (N : Nat) (e : Int) (b : Bool) (h : 18014398509481984 ≤ N ∨ e < -1075) : Sr neg N e b = Sr neg (N / 2) (e + 1) (b || decide (N % 2 = 1)) := by
  unfold Sr
  rw [nearest_step neg _ _ (by cases b <;> simp <;> omega)]
  congr 1
  · cases b
    · by_cases h2 : N % 2 = 1
      · rw [if_neg (by simp; omega)]
        simp [h2]
        omega
      · rw [if_pos (by simp; omega)]
        simp [h2]
        omega
    · rw [if_neg (by simp; omega)]
      simp
      omega
  · omega
theorem Sr_double (neg : Bool) (N : Nat) (e : Int) (b : Bool) (h : b = false ∨ 9007199254740992 ≤ N) : Sr neg (2 * N) (e - 1) b = Sr neg N e b := by
  rcases h with rfl | h
  · rw [Sr_exact, Sr_exact, nearest_double]
  · rw [Sr_half neg (2 * N) (e - 1) b (.inl (by omega)), show 2 * N / 2 = N by omega, show e - 1 + 1 = e by omega, show 2 * N % 2 = 0 by omega]
    simp
/-- what is left at last -/
theorem Sr_last (neg : Bool) (N : Nat) (e : Int) (b : Bool) (h1 : N < 18014398509481984) (h2 : -1075 ≤ e) (h3 : 9007199254740992 ≤ N ∨ e = -1075) :
    Sr neg N e b = double.word neg (min ((e + 1075).toNat * 4503599627370496 + (N / 2 + if N % 2 = 1 ∧ (b = true ∨ N / 2 % 2 = 1) then 1 else 0)) 9218868437227405312) := by
  unfold Sr
  by_cases h0 : 2 * N + b.toNat = 0
  · rw [h0, nearest_zero]
    have hN : N = 0 := by omega
    subst hN
    have he : e = -1075 := by omega
    subst he
    rfl
  · have hcut : cutE (2 * N + b.toNat) 2 = N / 2 + if N % 2 = 1 ∧ (b = true ∨ N / 2 % 2 = 1) then 1 else 0 := by
      cases b
      · rw [cutE_of (P := 4) (q := N / 2) (r := 2 * (N % 2)) rfl (by simp only [Bool.toNat_false]; omega) (by simp only [Bool.toNat_false]; omega)]
        congr 1
        by_cases hc : N % 2 = 1 ∧ N / 2 % 2 = 1
        · rw [if_pos (by omega), if_pos ⟨hc.1, .inr hc.2⟩]
        · rw [if_neg (by omega), if_neg (by rintro ⟨h1, h | h⟩; cases h; exact hc ⟨h1, h⟩)]
      · rw [cutE_of (P := 4) (q := N / 2) (r := 2 * (N % 2) + 1) rfl (by simp only [Bool.toNat_true]; omega) (by simp only [Bool.toNat_true]; omega)]
        congr 1
        by_cases hc : N % 2 = 1
        · rw [if_pos (by omega), if_pos ⟨hc, .inl rfl⟩]
        · rw [if_neg (by omega), if_neg (fun h => hc h.1)]
    have hb : b.toNat ≤ 1 := by cases b <;> decide
    have hlog : max (e - 1 + ((2 * N + b.toNat).log2 : Int) - 52) (-1074) = e + 1 := by
      have hu : (2 * N + b.toNat).log2 < 55 := (Nat.log2_lt h0).2 (by omega)
      rcases h3 with h3 | h3
      · have hl : 54 ≤ (2 * N + b.toNat).log2 := (Nat.le_log2 h0).2 (by omega)
        omega
      · rcases Nat.lt_or_ge N 9007199254740992 with h4 | h4
        · have hu : (2 * N + b.toNat).log2 < 54 := (Nat.log2_lt h0).2 (by omega)
          omega
        · omega
    rw [nearest_drop neg h0 hlog (d := 2) (by omega), hcut, show e + 1 + 1074 = e + 1075 by omega]
end Fl
end Go.Proofs.YtkbchpaofmlhgaaGreatDoor

/- The document's rounding, as a cell: what its loops keep. -/
namespace Go.Proofs.YtkbchpaofmlhgaaGreatDoor
open Go.RowKit
namespace Rn

/-- what cut answers -/
def CutIs (neg b0 : Bool) (N : Nat) (e v : Int) : Prop := v = cellOf (Fl.Sr neg N e b0)
/-- nothing was lost yet -/
def Kept (neg b0 : Bool) (N0 : Nat) (e0 : Int) (N : Nat) (e : Int) (more : Bool) : Prop := Fl.Sr neg N e more = Fl.Sr neg N0 e0 b0 ∧ (9007199254740992 ≤ N ∨ e ≤ -1075)
theorem Kept.start (neg b0 : Bool) (N : Nat) (e : Int) (h : 9007199254740992 ≤ N ∨ e ≤ -1075) : Kept neg b0 N e N e b0 := ⟨rfl, h⟩
section
variable {neg b0 : Bool} {N0 N m : Nat} {e0 e : Int} {more : Bool}
theorem Kept.step (h : Kept neg b0 N0 e0 N e more) (hc : 18014398509481984 ≤ N ∨ e < -1075) : Kept neg b0 N0 e0 (N / 2) (e + 1) (more || decide (N % 2 = 1)) :=
  ⟨(Fl.Sr_half neg N e more hc).symm.trans h.1, by omega⟩
/-- at the end of the halving -/
def Fin2 (neg b0 : Bool) (N0 : Nat) (e0 : Int) (N : Nat) (e : Int) (more : Bool) : Prop := Fl.Sr neg N e more = Fl.Sr neg N0 e0 b0 ∧ (9007199254740992 ≤ N ∨ e = -1075) ∧ N < 18014398509481984 ∧ -1075 ≤ e
theorem Kept.last (h : Kept neg b0 N0 e0 N e more) (h1 : N < 18014398509481984) (h2 : -1075 ≤ e) : Fin2 neg b0 N0 e0 N e more := ⟨h.1, by have := h.2; omega, h1, h2⟩
/-- a mantissa and an exponent, behind the rounding -/
def Fin1 (neg b0 : Bool) (N0 : Nat) (e0 : Int) (m : Nat) (e : Int) : Prop :=
  Fl.Sr neg N0 e0 b0 = Ieee.double.word neg (min ((e + 1074).toNat * 4503599627370496 + m) 9218868437227405312) ∧ -1074 ≤ e ∧ m ≤ 9007199254740992 ∧ (4503599627370496 ≤ m ∨ e = -1074)
theorem Fin2.half (h : Fin2 neg b0 N0 e0 N e more) (hb : (decide (N % 2 = 1) && (more || decide (N / 2 % 2 = 1))) = false) : Fin1 neg b0 N0 e0 (N / 2) (e + 1) := by
  obtain ⟨h1, h2, h3, h4⟩ := h
  refine ⟨?_, by omega, by omega, by omega⟩
  rw [← h1, Fl.Sr_last neg N e more h3 h4 h2, if_neg, Nat.add_zero, show e + 1 + 1074 = e + 1075 by omega]
  rintro ⟨g1, g2⟩
  rw [decide_eq_true g1, Bool.true_and, Bool.or_eq_false_iff] at hb
  rcases g2 with g2 | g2
  · rw [g2] at hb; cases hb.1
  · rw [decide_eq_true g2] at hb; cases hb.2
theorem Fin2.up (h : Fin2 neg b0 N0 e0 N e more) (hb : (decide (N % 2 = 1) && (more || decide (N / 2 % 2 = 1))) = true) : Fin1 neg b0 N0 e0 (N / 2 + 1) (e + 1) := by
  obtain ⟨h1, h2, h3, h4⟩ := h
  refine ⟨?_, by omega, by omega, by omega⟩
  rw [Bool.and_eq_true, Bool.or_eq_true, decide_eq_true_eq, decide_eq_true_eq] at hb
  rw [← h1, Fl.Sr_last neg N e more h3 h4 h2, if_pos hb, show e + 1 + 1074 = e + 1075 by omega]
theorem Fin1.big (h : Fin1 neg b0 N0 e0 m e) (hc : 9007199254740992 ≤ m) : Fin1 neg b0 N0 e0 (m / 2) (e + 1) := by
  obtain ⟨h1, h2, h3, h4⟩ := h
  refine ⟨?_, by omega, by omega, by omega⟩
  rw [h1, show (e + 1074).toNat * 4503599627370496 + m = (e + 1 + 1074).toNat * 4503599627370496 + m / 2 by omega]
theorem Fin1.inf (h : Fin1 neg b0 N0 e0 m e) (hc : 971 < e) : CutIs neg b0 N0 e0 (cellOf (Ieee.double.word neg 9218868437227405312)) := by
  obtain ⟨h1, h2, h3, h4⟩ := h
  unfold CutIs
  rw [h1, Nat.min_eq_right (by omega)]
theorem Fin1.low (h : Fin1 neg b0 N0 e0 m e) (hc : m < 4503599627370496) : CutIs neg b0 N0 e0 (cellOf (Ieee.double.word neg m)) := by
  obtain ⟨h1, h2, h3, h4⟩ := h
  unfold CutIs
  rw [h1, Nat.min_eq_left (by omega), show (e + 1074).toNat * 4503599627370496 + m = m by omega]
theorem Fin1.norm (h : Fin1 neg b0 N0 e0 m e) (h1 : m < 9007199254740992) (h3 : e ≤ 971) (x : Nat) (hx : (x : Int) = (e + 1075) * 4503599627370496 + m - 4503599627370496) : x < 9223372036854775808 ∧ CutIs neg b0 N0 e0 (cellOf (Ieee.double.word neg x)) := by
  obtain ⟨g1, g2, g3, g4⟩ := h
  refine ⟨by omega, ?_⟩
  unfold CutIs
  rw [g1, Nat.min_eq_left (by omega), show (e + 1074).toNat * 4503599627370496 + m = x by omega]
end
end Rn
end Go.Proofs.YtkbchpaofmlhgaaGreatDoor

/- rhytonref04's signed, inf, cut: any number of bits, with or without something that was left out. -/
namespace Go.Proofs.YtkbchpaofmlhgaaGreatDoor
open Go.RowKit
namespace Rn

theorem wsigned (x : Nat) (h : x < 9223372036854775808) : (x : Int) = cellOf x ∧ wrap64 ((x : Int) + 9223372036854775808) = cellOf (9223372036854775808 + x) := by
  unfold wrap64 cellOf
  refine ⟨?_, ?_⟩
  · rw [if_pos h]
  · rw [if_neg (by omega)]; omega
theorem signedR_any (neg : Bool) (x : Nat) (hx : x < 9223372036854775808) (w : World) : Calls Tryz.prog 92 #[.bool neg, .int .u64 x] w fun e w' => e = .returned (.int .i64 (cellOf (Ieee.double.word neg x))) ∧ w = w' := by
  have H1 := Lib.hid (wsigned x hx)
  have hw0 : Ieee.double.word false x = x := Fl.word_false x
  have hw1 : Ieee.double.word true x = 9223372036854775808 + x := by simp [Ieee.Format.word, Fl.c_sign]
  rcases neg with _ | _
  · rw [hw0]
    go_enter Tryz.func92, Tryz.ntmps92
    go_wp2_with fail
    go_ret
    exact ⟨ret1 (vint H1.out.1), rfl⟩
  · rw [hw1]
    go_enter Tryz.func92, Tryz.ntmps92
    go_wp2_with fail
    go_ret
    exact ⟨ret1 (vint H1.out.2), rfl⟩
theorem infR_any (neg : Bool) (w : World) : Calls Tryz.prog 88 #[.bool neg] w fun e w' => e = .returned (.int .i64 (cellOf (Ieee.double.word neg 9218868437227405312))) ∧ w = w' := by
  have h := fun W => signedR_any neg 9218868437227405312 (by omega) W
  go_enter Tryz.func88, Tryz.ntmps88
  go_wp2_with fail
  refine (h _).mono ?_
  rintro _ _ ⟨rfl, rfl⟩
  go_wp2_with fail
  go_ret
  exact ⟨rfl, rfl⟩

/-- a number's cells, of a number below 2^127 -/
theorem ph_nat (N : Nat) (h : N < 170141183460469231731687303715884105728) : ph N = ((N / 18446744073709551616 : Nat) : Int) := by
  unfold ph cellOf
  rw [if_pos (by omega)]
  omega
theorem pl_bits (N : Nat) : IntKind.u64.wrap (pl N) = ((N % 18446744073709551616 : Nat) : Int) := by
  unfold pl
  rw [bits_wrap64, bits_cell _ (by omega)]
theorem pl_odd (N : Nat) : ((pl N).tmod 2 != 0) = decide (N % 2 = 1) := by
  have h1 : (pl N).tmod 2 = 0 → (2 : Int) ∣ pl N := Int.dvd_of_tmod_eq_zero
  have h2 : (2 : Int) ∣ pl N → (pl N).tmod 2 = 0 := Int.tmod_eq_zero_of_dvd
  have h3 : (2 : Int) ∣ pl N ↔ N % 2 = 0 := by
    unfold pl cellOf
    split <;> omega
  rw [Bool.eq_iff_iff, bne_iff_ne, decide_eq_true_eq]
  omega
theorem half_lo (N : Nat) : pl (N / 2) = wrap64 (((N % 18446744073709551616 / 2 : Nat) : Int) + (if N / 18446744073709551616 % 2 = 1 then 9223372036854775808 else 0)) := by
  unfold pl wrap64 cellOf
  split <;> split <;> omega
theorem half_hi (N : Nat) (h : N < 170141183460469231731687303715884105728) : ph (N / 2) = ((N / 18446744073709551616 / 2 : Nat) : Int) := by
  rw [ph_nat _ (by omega)]
  omega

set_option maxRecDepth 100000 in
set_option maxHeartbeats 3200000 in
theorem cutR_any (neg b0 : Bool) (N0 : Nat) (hN0 : 0 < N0) (hN1 : N0 < 42535295865117307932921825928971026432) (e0 : Int) (he0 : -30000 ≤ e0) (he1 : e0 ≤ 30000) (hst : 9007199254740992 ≤ N0 ∨ e0 ≤ -1075) (w : World) :
    Calls Tryz.prog 186 #[.bool neg, .agg (two N0), .int .i64 e0, .bool b0] w fun x w' => ∃ v, CutIs neg b0 N0 e0 v ∧ x = .returned (.int .i64 v) ∧ Touch [] w w' := by
  have hsig : ∀ (X : Int), 0 ≤ X → X < 9223372036854775808 → ∀ W, Calls Tryz.prog 92 #[.bool neg, .int .u64 X] W fun e w' => e = .returned (.int .i64 (cellOf (Ieee.double.word neg X.toNat))) ∧ W = w' := fun X h0 h1 W => by
    obtain ⟨x, rfl⟩ : ∃ x : Nat, X = x := ⟨X.toNat, by omega⟩
    exact signedR_any neg x (by omega) W
  have hinf := fun W => infR_any neg W
  have hgd := pair_guard
  have heq := fun W => pair_eql (pl N0) (ph N0) 0 0 W
  rw [pair_nil N0 (by omega), decide_eq_false (by omega)] at heq
  have HQ := Lib.hid hN0
  have HN1 := Lib.hid hN1
  have HST := Lib.hid (Kept.start neg b0 N0 e0 hst)
  clear hN0 hst
  unfold two
  go_enter Tryz.func186, Tryz.ntmps186
  go_upto_region 1 with (fail)
  have bP := Blk.new w 38 #[.int .i64 (pl N0), .int .i64 (ph N0)]
  have tw := (Touch.refl [] w).alloc (.cells #[.int .i64 (pl N0), .int .i64 (ph N0)] 38)
  generalize w.alloc (.cells #[.int .i64 (pl N0), .int .i64 (ph N0)] 38) = wA at *
  have p0 := bP.cell 0
  have p1 := bP.cell 1
  go_wp2_with fail
  clear p0 p1 heq
  go_loopw [2, 3] (fun i m wr => ∃ (N j : Nat) (e : Int) (more : Bool), N < 42535295865117307932921825928971026432 ∧ i = .int .i64 e ∧ m = .bool more ∧ -30000 ≤ e ∧ e ≤ 30200 ∧ Hid (N = N0 / 2 ^ j ∧ e = e0 + j) ∧ Hid (Kept neg b0 N0 e0 N e more) ∧ Blk wr w.heap.size 38 (two N) ∧ Touch [] w wr) (fun i _ _ => (30201 - intOf i).toNat)
  case atStart => exact ⟨N0, 0, e0, b0, hN1, rfl, rfl, he0, by omega, ⟨by simp, by simp⟩, HST.out, bP, tw⟩
  case round =>
    obtain ⟨N, j, e, more, hN, rfl, rfl, hb0, hb1, HJ, HK, bP, tw⟩ := hrel
    have p0 := bP.cell 0
    have p1 := bP.cell 1
    have fp0 := bP.frozen 0
    have fp1 := bP.frozen 1
    have hLw := pl_bits N
    have hod := pl_odd N
    have hlo := half_lo N
    have hhi := half_hi N (by omega)
    have hp1 : (two N)[1]? = some (.int .i64 ((N / 18446744073709551616 : Nat) : Int)) := by rw [← ph_nat N (by omega)]; rfl
    rw [hp1] at p1
    obtain ⟨H, hH⟩ : ∃ H, N / 18446744073709551616 = H := ⟨_, rfl⟩
    obtain ⟨L, hL⟩ : ∃ L, N % 18446744073709551616 = L := ⟨_, rfl⟩
    obtain ⟨o, ho⟩ : ∃ o, decide (N % 2 = 1) = o := ⟨_, rfl⟩
    rw [hH] at p1 hhi hlo
    rw [hL] at hLw hlo
    rw [ho] at hod
    have hH64 : H < 2305843009213693952 := by omega
    have hL64 : L < 18446744073709551616 := by omega
    clear hp1
    by_cases hc : 18014398509481984 ≤ N ∨ e < -1075
    · have hK := (show Kept neg b0 N0 e0 N e more from HK).step hc
      rw [ho] at hK
      have hJ : N / 2 = N0 / 2 ^ (j + 1) ∧ e + 1 = e0 + ((j + 1 : Nat) : Int) := by
        obtain ⟨h1, h2⟩ := (show N = N0 / 2 ^ j ∧ e = e0 + j from HJ)
        refine ⟨?_, by omega⟩
        rw [Nat.pow_succ, ← Nat.div_div_eq_div_mul, ← h1]
      have hje : e < 30200 := by
        obtain ⟨h1, h2⟩ := (show N = N0 / 2 ^ j ∧ e = e0 + j from HJ)
        rcases hc with hc | hc
        · have h3 : 18014398509481984 * 2 ^ j ≤ N0 := Nat.le_trans (Nat.mul_le_mul_right _ hc) (by rw [h1]; exact Nat.div_mul_le_self _ _)
          have h4 : j < 71 := by
            rcases Nat.lt_or_ge j 71 with h | h
            · exact h
            · have : (2 : Nat) ^ 71 ≤ 2 ^ j := Nat.pow_le_pow_right (by decide) h
              have h71 : (2 : Nat) ^ 71 = 2361183241434822606848 := by decide
              omega
          omega
        · omega
      have HK2 := Lib.hid hK
      have HJ2 := Lib.hid hJ
      obtain ⟨Li, hLi⟩ : ∃ Li : Int, (L : Int) = Li := ⟨_, rfl⟩
      obtain ⟨Hi, hHi⟩ : ∃ Hi : Int, (H : Int) = Hi := ⟨_, rfl⟩
      rw [hLi] at hLw
      rw [hHi] at p1
      obtain ⟨l2, hl2⟩ : ∃ l2 : Int, Li / 2 = l2 := ⟨_, rfl⟩
      obtain ⟨h2, hh2⟩ : ∃ h2 : Int, Hi / 2 = h2 := ⟨_, rfl⟩
      have hlo2 : (Hi % 2 = 1 → pl (N / 2) = wrap64 (l2 + 9223372036854775808)) ∧ (Hi % 2 = 0 → pl (N / 2) = l2) := by
        refine ⟨fun h => ?_, fun h => ?_⟩
        · rw [hlo, if_pos (by omega)]
          congr 1
          omega
        · rw [hlo, if_neg (by omega), Int.add_zero]
          unfold wrap64
          omega
      have hhi2 : ph (N / 2) = h2 := by rw [hhi]; omega
      have hLi0 : 0 ≤ Li := by omega
      have hLi1 : Li < 18446744073709551616 := by omega
      have hHi0 : 0 ≤ Hi := by omega
      have hHi1 : Hi < 2305843009213693952 := by omega
      have hl20 : 0 ≤ l2 := by omega
      have hl21 : l2 < 9223372036854775808 := by omega
      have hh20 : 0 ≤ h2 := by omega
      have hh21 : h2 < 2305843009213693952 := by omega
      have hwh : IntKind.u64.wrap Hi = Hi := by rw [IntKind.wrap_u64]; omega
      have hcase : (Hi != 0) = true ∨ (Hi != 0) = false ∧ 18014398509481984 ≤ Li ∨ (Hi != 0) = false ∧ ¬ 18014398509481984 ≤ Li ∧ e < -1075 := by
        by_cases h0 : Hi = 0
        · right
          simp only [h0, bne_self_eq_false, true_and]
          omega
        · exact .inl (by simpa using h0)
      have hpar : (Hi % 2 != 0) = true ∧ Hi % 2 = 1 ∨ (Hi % 2 != 0) = false ∧ Hi % 2 = 0 := by
        rcases (show Hi % 2 = 0 ∨ Hi % 2 = 1 by omega) with h | h
        · exact .inr ⟨by rw [h]; rfl, h⟩
        · exact .inl ⟨by rw [h]; rfl, h⟩
      have HLO := Lib.hid hlo2
      have HHI := Lib.hid hhi2
      clear hK HK HJ hJ hc hlo hhi hlo2 hhi2 hLi hHi ho hH hL hH64 hL64
      rcases hpar with ⟨hq, hq1⟩ | ⟨hq, hq1⟩ <;> rcases hcase with ht | ⟨ht, ht2⟩ | ⟨ht, ht2, ht3⟩ <;> rcases more with _ | _
      all_goals
        have HQ1 := Lib.hid hq1
        clear hq1
        go_wp2_with fail
        refine ⟨⟨N / 2, j + 1, e + 1, _, by omega, rfl, rfl, by omega, by omega, HJ2, HK2, ?_, ((tw.setCell (.inr (Nat.le_refl _)) _).setCell (.inr (Nat.le_refl _)) _)⟩, ?_⟩
        · have hpl := HLO.out
          have hq2 := HQ1.out
          have hph := HHI.out
          show Blk _ _ _ #[.int .i64 (pl (N / 2)), .int .i64 (ph (N / 2))]
          rw [hph]
          first
            | (rw [hpl.1 hq2]; exact bP.two_set _ _)
            | (rw [hpl.2 hq2]; exact bP.two_set _ _)
        · show (30201 - (e + 1)).toNat < (30201 - e).toNat
          omega
    · have hF := (show Kept neg b0 N0 e0 N e more from HK).last (by omega) (by omega)
      have HF := Lib.hid hF
      obtain rfl : H = 0 := by omega
      obtain rfl : N = L := by omega
      obtain ⟨m, hm⟩ : ∃ m, N / 2 = m := ⟨_, rfl⟩
      have hm2 : (N : Int) / 2 = (m : Int) := by omega
      obtain ⟨d, hd⟩ : ∃ d, decide (m % 2 = 1) = d := ⟨_, rfl⟩
      have hd2 : ((m : Int) % 2 == 1) = d := by rw [← hd, Bool.eq_iff_iff, beq_iff_eq, decide_eq_true_eq]; omega
      have ho2 : ((N : Int) % 2 == 1) = o := by rw [← ho, Bool.eq_iff_iff, beq_iff_eq, decide_eq_true_eq]; omega
      have hN54 : N < 18014398509481984 := by omega
      have hm53 : m < 9007199254740992 := by omega
      have he75 : -1075 ≤ e := by omega
      have HO := Lib.hid ho
      have HD := Lib.hid hd
      have HM := Lib.hid hm
      obtain ⟨Ni, hNi⟩ : ∃ Ni : Int, (N : Int) = Ni := ⟨_, rfl⟩
      rw [hNi] at hLw hm2 ho2
      have hNi0 : 0 ≤ Ni := by omega
      have hNi1 : Ni < 18014398509481984 := by omega
      have HNi := Lib.hid hNi
      clear hF HK HJ hc hL hH hd ho hm hlo hhi hod hNi hN54 hL64
      clear hH64
      have p1 : wr.cell? { block := w.heap.size, off := 1 } = some (Value.int IntKind.i64 0) := p1
      go_upto_region 14 with (fail)
      obtain ⟨mi, hmi⟩ : ∃ mi : Int, Ni / 2 = mi := ⟨_, rfl⟩
      rw [hmi]
      have hmm : mi = (m : Int) := by omega
      have hd3 : (mi % 2 == 1) = d := by rw [hmm]; exact hd2
      have hmi0 : 0 ≤ mi := by omega
      have hmi1 : mi < 9007199254740992 := by omega
      have HMM := Lib.hid hmm
      clear p0 p1 fp0 fp1 hLw hm2 hd2 ho2 hmi hmm hNi0 hNi1
      go_cut [75] from 67 (fun s75 wx => s75 = .bool (o && (more || d)) ∧ wr = wx)
      case first =>
        rcases o with _ | _ <;> rcases more with _ | _ <;> rcases d with _ | _
        all_goals
          go_wp2_with fail
          go_meet
          exact ⟨rfl, rfl⟩
      case rest =>
        obtain ⟨rfl, rfl⟩ := hcut
        obtain ⟨b, hb⟩ : ∃ b, (o && (more || d)) = b := ⟨_, rfl⟩
        rw [hb]
        have HB := Lib.hid hb
        clear hb hd3
        go_upto_if 75 with (fail)
        go_cut [10] from 76 (fun s10 wx => ∃ m1 : Int, s10 = .int .u64 m1 ∧ 0 ≤ m1 ∧ m1 ≤ 9007199254740992 ∧ Hid (Fin1 neg b0 N0 e0 m1.toNat (e + 1)) ∧ wr = wx)
        case first =>
          rcases b with _ | _
          · go_wp2_with fail
            go_meet
            refine ⟨mi, rfl, hmi0, by omega, ?_, rfl⟩
            rw [HMM.out, Int.toNat_natCast, ← HM.out]
            exact HF.out.half (by rw [HO.out, HM.out, HD.out]; exact HB.out)
          · go_wp2_with fail
            go_meet
            refine ⟨mi + 1, rfl, by omega, by omega, ?_, rfl⟩
            rw [show (mi + 1).toNat = N / 2 + 1 by have := HMM.out; have := HM.out; omega]
            exact HF.out.up (by rw [HO.out, HM.out, HD.out]; exact HB.out)
        case rest =>
          obtain ⟨m1, rfl, hm10, hm11, HF1, rfl⟩ := hcut
          clear HB HF HO HD HM HMM hmi0 hmi1 hm53 HNi
          go_upto_if 79 with (fail)
          go_cut [2, 10] from 80 (fun s2 s10 wx => ∃ (e2 m2 : Int), s2 = .int .i64 e2 ∧ s10 = .int .u64 m2 ∧ 0 ≤ m2 ∧ m2 < 9007199254740992 ∧ -1074 ≤ e2 ∧ e2 ≤ 30300 ∧ Hid (Fin1 neg b0 N0 e0 m2.toNat e2) ∧ wr = wx)
          case first =>
            by_cases hbig : 9007199254740992 ≤ m1
            · obtain ⟨m3, hm3⟩ : ∃ m3, m1 / 2 = m3 := ⟨_, rfl⟩
              have hm30 : 0 ≤ m3 ∧ m3 < 9007199254740992 := by omega
              have hF2 := (show Fin1 neg b0 N0 e0 m1.toNat (e + 1) from HF1).big (by omega)
              rw [show m1.toNat / 2 = m3.toNat by omega] at hF2
              have HF2 := Lib.hid hF2
              clear hF2
              go_wp2_with fail
              go_meet
              rw [hm3]
              exact ⟨e + 1 + 1, m3, rfl, rfl, hm30.1, hm30.2, by omega, by omega, HF2, rfl⟩
            · go_wp2_with fail
              go_meet
              exact ⟨e + 1, m1, rfl, rfl, hm10, by omega, by omega, by omega, HF1, rfl⟩
          case rest =>
            obtain ⟨e2, m2, rfl, rfl, hm20, hm21, he20, he21, HF2, rfl⟩ := hcut
            clear HF1 hm10 hm11 hb0 hb1 hN he75 bP hN1
            have hF2 : Fin1 neg b0 N0 e0 m2.toNat e2 := HF2
            by_cases hout : 971 < e2
            · have HC := Lib.hid (hF2.inf hout)
              clear hF2 HF2
              go_wp2_with fail
              refine (hinf _).mono ?_
              rintro _ _ ⟨rfl, rfl⟩
              go_wp2_with fail
              go_ret
              exact ⟨_, HC, rfl, tw⟩
            · by_cases hlow : m2 < 4503599627370496
              · have HC := Lib.hid (hF2.low (by omega))
                clear hF2 HF2
                go_wp2_with fail
                refine (hsig m2 hm20 (by omega) _).mono ?_
                rintro _ _ ⟨rfl, rfl⟩
                go_wp2_with fail
                go_ret
                exact ⟨_, HC, rfl, tw⟩
              · obtain ⟨X, hX⟩ : ∃ X : Int, (e2 + 1075) * 4503599627370496 + m2 - 4503599627370496 = X := ⟨_, rfl⟩
                have hX0 : 0 ≤ X := by omega
                obtain ⟨hX1, hC⟩ := hF2.norm (by omega) (by omega) X.toNat (by omega)
                have HC := Lib.hid hC
                clear hF2 HF2 hC
                go_wp2_with fail
                refine (hsig X hX0 (by omega) _).mono ?_
                rintro _ _ ⟨rfl, rfl⟩
                go_wp2_with fail
                go_ret
                exact ⟨_, HC, rfl, tw⟩
end Rn
end Go.Proofs.YtkbchpaofmlhgaaGreatDoor

/- rhytonref04's rounded: any pair, with or without something that was left out. -/
namespace Go.Proofs.YtkbchpaofmlhgaaGreatDoor
open Go.RowKit
namespace Rn

theorem pair_neq (a b c d : Int) (w : World) : (binOp .neq 38 (.agg #[.int .i64 a, .int .i64 b]) (.agg #[.int .i64 c, .int .i64 d])).run Tryz.prog w = .ok (.bool (!(a == c && b == d))) w := by
  rw [run_neq_struct, run_equalIn_agg _ _ _ _ _ pair_struct pair_stood]
  simp only [Program.fieldsOf, Tryz.underlying38]
  go_simp
  repeat' split
  all_goals simp_all
theorem pow_lt_bits (m k : Nat) (h0 : 0 < m) (h : m * 2 ^ k < 42535295865117307932921825928971026432) : k < 125 := by
  rcases Nat.lt_or_ge k 125 with h1 | h1
  · exact h1
  · have h2 : (2 : Nat) ^ 125 ≤ 2 ^ k := Nat.pow_le_pow_right (by decide) h1
    have h3 : (2 : Nat) ^ 125 = 42535295865117307932921825928971026432 := by decide
    have h4 : 2 ^ k ≤ m * 2 ^ k := Nat.le_mul_of_pos_left _ h0
    omega

set_option maxRecDepth 100000 in
set_option maxHeartbeats 3200000 in
theorem rounded_pos (neg b0 : Bool) (m : Nat) (hm0 : 0 < m) (hm1 : m < 42535295865117307932921825928971026432) (hst : b0 = false ∨ 9007199254740992 ≤ m) (e0 : Int) (he0 : -20000 ≤ e0) (he1 : e0 ≤ 20000) (w : World) :
    Calls Tryz.prog 90 #[.bool neg, .agg (two m), .int .i64 e0, .bool b0] w fun x w' => ∃ v, CutIs neg b0 m e0 v ∧ x = .returned (.int .i64 v) ∧ Touch [] w w' := by
  have hcut := fun N h0 h1 e g0 g1 g2 W => cutR_any neg b0 N h0 h1 e g0 g1 g2 W
  have HST := Lib.hid hst
  clear hst
  have htw := fun x r (hx : x < 340282366920938463463374607431768211456) hr W => twice_p x hx r hr W
  have hgd := pair_guard
  unfold two at hcut
  unfold two
  go_enter Tryz.func90, Tryz.ntmps90
  go_upto_region 1 with (fail)
  have bP := Blk.new w 38 #[.int .i64 (pl m), .int .i64 (ph m)]
  have tw := (Touch.refl [] w).alloc (.cells #[.int .i64 (pl m), .int .i64 (ph m)] 38)
  generalize w.alloc (.cells #[.int .i64 (pl m), .int .i64 (ph m)] 38) = wA at *
  go_wp2_with fail
  go_loopw [2] (fun i wr => ∃ (N k : Nat) (e : Int), N < 42535295865117307932921825928971026432 ∧ 0 < N ∧ i = .int .i64 e ∧ -20000 ≤ e + 125 ∧ e ≤ 20000 ∧ Hid (N = m * 2 ^ k ∧ e = e0 - k ∧ Fl.Sr neg N e b0 = Fl.Sr neg m e0 b0) ∧ Blk wr w.heap.size 38 (two N) ∧ Touch [] w wr) (fun i _ => (intOf i + 21000).toNat)
  case atStart => exact ⟨m, 0, e0, hm1, hm0, rfl, by omega, he1, ⟨by simp, by simp, rfl⟩, bP, tw⟩
  case round =>
    obtain ⟨N, k, e, hN, hN0, rfl, hb0, hb1, HJ, bP, tw⟩ := hrel
    have p0 := bP.cell 0
    have p1 := bP.cell 1
    have fp0 := bP.frozen 0
    have fp1 := bP.frozen 1
    have hne := fun W => pair_neq (pl N) (ph N) 0 0 W
    rw [pair_nil N (by omega), decide_eq_false (by omega), Bool.not_false] at hne
    have hph := ph_nat N (by omega)
    obtain ⟨Hi, hHi⟩ : ∃ Hi : Int, ((N / 18446744073709551616 : Nat) : Int) = Hi := ⟨_, rfl⟩
    rw [hHi] at hph
    have hHi0 : 0 ≤ Hi := by omega
    have hwh : IntKind.u64.wrap Hi = Hi := by rw [IntKind.wrap_u64]; omega
    have hp1 : (two N)[1]? = some (.int .i64 Hi) := by rw [← hph]; rfl
    rw [hp1] at p1
    rw [hph] at hne
    clear hp1
    by_cases hbig : 21267647932558653966460912964485513216 ≤ N
    · have hHi2 : ¬ Hi < 1152921504606846976 := by omega
      have hc := hcut N hN0 hN e (by omega) (by omega) (by omega) wr
      rw [hph] at hc
      have HC := Lib.hid hc
      clear hHi hph hc
      go_wp2_with fail
      refine HC.out.mono ?_
      rintro _ w1 ⟨v, hv, rfl, t1⟩
      have HV := Lib.hid hv
      clear hv
      go_wp2_with fail
      go_ret
      refine ⟨v, ?_, rfl, tw.trans t1 (by simp)⟩
      obtain ⟨j1, j2, j3⟩ := (show N = m * 2 ^ k ∧ e = e0 - k ∧ Fl.Sr neg N e b0 = Fl.Sr neg m e0 b0 from HJ)
      have hv := HV.out
      unfold CutIs at hv ⊢
      rw [hv, j3]
    · have hHi2 : Hi < 1152921504606846976 := by omega
      have hc := htw N (N + N) (by omega) (by omega) wr
      rw [hph] at hc
      have HC := Lib.hid hc
      have hJ2 : N + N = m * 2 ^ (k + 1) ∧ e - 1 = e0 - ((k + 1 : Nat) : Int) ∧ Fl.Sr neg (N + N) (e - 1) b0 = Fl.Sr neg m e0 b0 := by
        obtain ⟨j1, j2, j3⟩ := (show N = m * 2 ^ k ∧ e = e0 - k ∧ Fl.Sr neg N e b0 = Fl.Sr neg m e0 b0 from HJ)
        have hmN : m ≤ N := by rw [j1]; exact Nat.le_mul_of_pos_right _ (Nat.two_pow_pos k)
        refine ⟨?_, by omega, by rw [← Nat.two_mul, Fl.Sr_double neg N e b0 (HST.out.imp id (fun h => Nat.le_trans h hmN)), j3]⟩
        rw [Nat.pow_succ, ← Nat.mul_assoc, ← j1]
        omega
      have hk := pow_lt_bits m (k + 1) hm0 (by rw [← hJ2.1]; omega)
      have hb2 : -20000 ≤ e - 1 + 125 := by omega
      have HJ2 := Lib.hid hJ2
      clear hph hHi hc hJ2 HJ hk
      go_wp2_with fail
      refine HC.out.mono ?_
      rintro _ w1 ⟨rfl, t1⟩
      clear p0 p1 fp0 fp1
      have bP := bP.touch t1 (by simp)
      have tw := tw.trans t1 (by simp)
      clear t1
      have p0 := bP.cell 0
      have p1 := bP.cell 1
      have fp0 := bP.frozen 0
      have fp1 := bP.frozen 1
      go_wp2_with fail
      refine ⟨⟨N + N, k + 1, e - 1, by omega, by omega, rfl, hb2, by omega, HJ2, bP.two_set (.int .i64 (pl (N + N))) (.int .i64 (ph (N + N))), ((tw.setCell (.inr (Nat.le_refl _)) _).setCell (.inr (Nat.le_refl _)) _)⟩, ?_⟩
      show (e - 1 + 21000).toNat < (e + 21000).toNat
      omega
end Rn
end Go.Proofs.YtkbchpaofmlhgaaGreatDoor

/- rhytonref04.Open. -/
namespace Go.Proofs.YtkbchpaofmlhgaaGreatDoor
open Go.RowKit
namespace Rn

/-- a real number's parts -/
structure PartV where
  kind : Int
  neg : Bool
  m : Int
  e : Int
abbrev PartV.cells (p : PartV) : Array Value := #[.int .i64 p.kind, .bool p.neg, .int .u64 p.m, .int .i64 p.e]
def partF (x : Nat) : PartV :=
  if x / 4503599627370496 % 2048 = 2047 then ⟨if x % 4503599627370496 = 0 then 1 else 0, Fl.sg x, (x % 4503599627370496 : Nat), 0⟩
  else if x / 4503599627370496 % 2048 = 0 then ⟨2, Fl.sg x, (x % 4503599627370496 : Nat), -1074⟩
  else ⟨2, Fl.sg x, (x % 4503599627370496 + 4503599627370496 : Nat), (x / 4503599627370496 % 2048 : Nat) - 1075⟩

theorem four_set {w : World} {g : Nat} {t : TypeId} {a b c d : Value} (h : Blk w g t #[a, b, c, d]) (x y z u : Value) : Blk ((((w.setCell ⟨g, 0, none⟩ x).setCell ⟨g, 1, none⟩ y).setCell ⟨g, 2, none⟩ z).setCell ⟨g, 3, none⟩ u) g t #[x, y, z, u] :=
  (((h.set_ 0 x).set_ 1 y).set_ 2 z).set_ 3 u
theorem four_back {w : World} {g : Nat} {t : TypeId} {a b c d : Value} (h : Blk w g t #[a, b, c, d]) (x y z u : Value) :
    (w.setCell ⟨g, 0, none⟩ x).cell? ⟨g, 0, none⟩ = some x ∧ ((w.setCell ⟨g, 0, none⟩ x).setCell ⟨g, 1, none⟩ y).cell? ⟨g, 1, none⟩ = some y ∧ (((w.setCell ⟨g, 0, none⟩ x).setCell ⟨g, 1, none⟩ y).setCell ⟨g, 2, none⟩ z).cell? ⟨g, 2, none⟩ = some z ∧
      ((((w.setCell ⟨g, 0, none⟩ x).setCell ⟨g, 1, none⟩ y).setCell ⟨g, 2, none⟩ z).setCell ⟨g, 3, none⟩ u).cell? ⟨g, 3, none⟩ = some u :=
  ⟨(h.set_ 0 x).cell 0, ((h.set_ 0 x).set_ 1 y).cell 1, (((h.set_ 0 x).set_ 1 y).set_ 2 z).cell 2, (four_set h x y z u).cell 3⟩

set_option maxRecDepth 100000 in
set_option maxHeartbeats 1600000 in
theorem open_any (f : Int) (f0 : -9223372036854775808 ≤ f) (f1 : f ≤ 9223372036854775807) (w : World) : Calls Tryz.prog 57 #[.int .i64 f] w fun e w' => e = .returned (.agg (partF (bitsOf f)).cells) ∧ Touch [] w w' := by
  have hx : IntKind.u64.wrap f = (bitsOf f : Int) := by rw [IntKind.wrap_u64, bitsOf_cast]
  have hlt := bitsOf_lt f
  have hsg : (decide (f < 0)) = Fl.sg (bitsOf f) := by
    unfold Fl.sg bitsOf
    rw [Bool.eq_iff_iff, decide_eq_true_eq, beq_iff_eq]
    omega
  obtain ⟨x, hxe⟩ : ∃ x, bitsOf f = x := ⟨_, rfl⟩
  rw [hxe] at hx hlt hsg ⊢
  obtain ⟨fr, hfr⟩ : ∃ fr, x % 4503599627370496 = fr := ⟨_, rfl⟩
  obtain ⟨e, he⟩ : ∃ e, x / 4503599627370496 % 2048 = e := ⟨_, rfl⟩
  have hP : partF x = if e = 2047 then ⟨if fr = 0 then 1 else 0, Fl.sg x, (fr : Int), 0⟩ else if e = 0 then ⟨2, Fl.sg x, (fr : Int), -1074⟩ else ⟨2, Fl.sg x, (fr : Int) + 4503599627370496, (e : Int) - 1075⟩ := by
    unfold partF
    rw [hfr, he]
    rfl
  obtain ⟨sg, hse⟩ : ∃ sg, Fl.sg x = sg := ⟨_, rfl⟩
  rw [hse] at hP hsg
  have hA : (x : Int) % 4503599627370496 = (fr : Int) := by rw [← hfr]; rfl
  have hB : (x : Int) / 4503599627370496 % 2048 = (e : Int) := by rw [← he]; rfl
  have hfl : fr < 4503599627370496 := by omega
  have hel : e < 2048 := by omega
  obtain ⟨V, hV⟩ : ∃ V, partF x = V := ⟨_, rfl⟩
  rw [hV] at hP ⊢
  have HP := Lib.hid hP
  clear hP hse hfr he hxe hV f0 f1
  go_enter Tryz.func57, Tryz.ntmps57
  go_upto_region 4 with (fail)
  have bR := (Blk.new w 106 #[.int .i64 0, .bool false, .int .u64 0, .int .i64 0]).alloc (.cells #[.int .i64 2, .bool sg, .int .u64 (fr : Int), .int .i64 0] 106)
  have bP := Blk.new_at (n := w.heap.size + 1) (w.alloc (.cells #[.int .i64 0, .bool false, .int .u64 0, .int .i64 0] 106)) (by simp) 106 #[.int .i64 2, .bool sg, .int .u64 (fr : Int), .int .i64 0]
  have tw := ((Touch.refl [] w).alloc (.cells #[.int .i64 0, .bool false, .int .u64 0, .int .i64 0] 106)).alloc (.cells #[.int .i64 2, .bool sg, .int .u64 (fr : Int), .int .i64 0] 106)
  generalize (w.alloc (.cells #[.int .i64 0, .bool false, .int .u64 0, .int .i64 0] 106)).alloc (.cells #[.int .i64 2, .bool sg, .int .u64 (fr : Int), .int .i64 0] 106) = wA at *
  have p0 := bP.cell 0
  have p1 := bP.cell 1
  have p2 := bP.cell 2
  have p3 := bP.cell 3
  have r0 := bR.cell 0
  have r1 := bR.cell 1
  have r2 := bR.cell 2
  have r3 := bR.cell 3
  have fp0 := bP.frozen 0
  have fp2 := bP.frozen 2
  have fp3 := bP.frozen 3
  have fr0 := bR.frozen 0
  have fr1 := bR.frozen 1
  have fr2 := bR.frozen 2
  have fr3 := bR.frozen 3
  by_cases h1 : e = 2047
  · have h1' : ((e : Int) == 2047) = true := by rw [beq_iff_eq]; omega
    by_cases h2 : fr = 0
    · have h2' : ((fr : Int) != 0) = false := by simp [h2]
      obtain rfl : V = ⟨1, sg, (fr : Int), 0⟩ := by rw [HP.out, if_pos h1, if_pos h2]
      clear h1 h2 HP
      go_wp2_with fail
      obtain ⟨z0, z1, z2, z3⟩ := four_back (bR.far (p := ⟨w.heap.size + 1, 0, none⟩) (by simp) (.int .i64 1)) (.int .i64 1) (.bool sg) (.int .u64 (fr : Int)) (.int .i64 0)
      refine bodyPost_ret (by simp [results, Tryz.results57, go_sem, z0, z1, z2, z3]; try rfl) rfl ⟨rfl, ?_⟩
      exact ((((tw.setCell (.inr (by simp)) _).setCell (.inr (by simp)) _).setCell (.inr (by simp)) _).setCell (.inr (by simp)) _).setCell (.inr (by simp)) _
    · have h2' : ((fr : Int) != 0) = true := by simp; omega
      obtain rfl : V = ⟨0, sg, (fr : Int), 0⟩ := by rw [HP.out, if_pos h1, if_neg h2]
      clear h1 h2 HP
      go_wp2_with fail
      obtain ⟨z0, z1, z2, z3⟩ := four_back ((bR.far (p := ⟨w.heap.size + 1, 0, none⟩) (by simp) (.int .i64 1)).far (p := ⟨w.heap.size + 1, 0, none⟩) (by simp) (.int .i64 0)) (.int .i64 0) (.bool sg) (.int .u64 (fr : Int)) (.int .i64 0)
      refine bodyPost_ret (by simp [results, Tryz.results57, go_sem, z0, z1, z2, z3]; try rfl) rfl ⟨rfl, ?_⟩
      exact (((((tw.setCell (.inr (by simp)) _).setCell (.inr (by simp)) _).setCell (.inr (by simp)) _).setCell (.inr (by simp)) _).setCell (.inr (by simp)) _).setCell (.inr (by simp)) _
  · have h1' : ((e : Int) == 2047) = false := beq_eq_false_iff_ne.2 (by omega)
    by_cases h2 : e = 0
    · have h2' : ((e : Int) == 0) = true := by rw [h2]; rfl
      obtain rfl : V = ⟨2, sg, (fr : Int), -1074⟩ := by rw [HP.out, if_neg h1, if_pos h2]
      clear h1 h2 HP
      go_wp2_with fail
      obtain ⟨z0, z1, z2, z3⟩ := four_back (bR.far (p := ⟨w.heap.size + 1, 3, none⟩) (by simp) (.int .i64 (-1074))) (.int .i64 2) (.bool sg) (.int .u64 (fr : Int)) (.int .i64 (-1074))
      refine bodyPost_ret (by simp [results, Tryz.results57, go_sem, z0, z1, z2, z3]; try rfl) rfl ⟨rfl, ?_⟩
      exact ((((tw.setCell (.inr (by simp)) _).setCell (.inr (by simp)) _).setCell (.inr (by simp)) _).setCell (.inr (by simp)) _).setCell (.inr (by simp)) _
    · have h2' : ((e : Int) == 0) = false := beq_eq_false_iff_ne.2 (by omega)
      obtain rfl : V = ⟨2, sg, (fr : Int) + 4503599627370496, (e : Int) - 1075⟩ := by rw [HP.out, if_neg h1, if_neg h2]
      clear h1 h2 HP
      go_wp2_with fail
      obtain ⟨z0, z1, z2, z3⟩ := four_back ((bR.far (p := ⟨w.heap.size + 1, 2, none⟩) (by simp) (.int .u64 ((fr : Int) + 4503599627370496))).far (p := ⟨w.heap.size + 1, 3, none⟩) (by simp) (.int .i64 ((e : Int) - 1075))) (.int .i64 2) (.bool sg) (.int .u64 ((fr : Int) + 4503599627370496)) (.int .i64 ((e : Int) - 1075))
      refine bodyPost_ret (by simp [results, Tryz.results57, go_sem, z0, z1, z2, z3]; try rfl) rfl ⟨rfl, ?_⟩
      exact (((((tw.setCell (.inr (by simp)) _).setCell (.inr (by simp)) _).setCell (.inr (by simp)) _).setCell (.inr (by simp)) _).setCell (.inr (by simp)) _).setCell (.inr (by simp)) _
end Rn
end Go.Proofs.YtkbchpaofmlhgaaGreatDoor

/- rhytonref04: what is rounded of any pair; below, lesser. -/
namespace Go.Proofs.YtkbchpaofmlhgaaGreatDoor
open Go.RowKit
namespace Rn

set_option maxHeartbeats 1000000 in
theorem cut_nil (neg : Bool) (e0 : Int) (w : World) : Calls Tryz.prog 186 #[.bool neg, .agg (two 0), .int .i64 e0, .bool false] w fun x w' => x = .returned (.int .i64 (cellOf (Ieee.double.word neg 0))) ∧ Touch [] w w' := by
  have hsig := fun W => signedR_any neg 0 (by omega) W
  have heq := fun W => pair_eql (pl 0) (ph 0) 0 0 W
  have e0 : ((pl 0 == 0) && (ph 0 == 0)) = true := by decide
  rw [e0] at heq
  unfold two
  clear e0
  go_enter Tryz.func186, Tryz.ntmps186
  go_upto_region 1 with (fail)
  have bP := Blk.new w 38 #[.int .i64 (pl 0), .int .i64 (ph 0)]
  have tw := (Touch.refl [] w).alloc (.cells #[.int .i64 (pl 0), .int .i64 (ph 0)] 38)
  generalize w.alloc (.cells #[.int .i64 (pl 0), .int .i64 (ph 0)] 38) = wA at *
  have p0 := bP.cell 0
  have p1 := bP.cell 1
  go_wp2_with fail
  refine (hsig _).mono ?_
  rintro _ _ ⟨rfl, rfl⟩
  go_wp2_with fail
  go_ret
  exact ⟨rfl, tw⟩
set_option maxHeartbeats 1000000 in
theorem rounded_nil (neg : Bool) (e0 : Int) (w : World) : Calls Tryz.prog 90 #[.bool neg, .agg (two 0), .int .i64 e0, .bool false] w fun x w' => x = .returned (.int .i64 (cellOf (Ieee.double.word neg 0))) ∧ Touch [] w w' := by
  have hcut := fun W => cut_nil neg e0 W
  have hne := fun W => pair_neq (pl 0) (ph 0) 0 0 W
  have e1 : (!((pl 0 == 0) && (ph 0 == 0))) = false := by decide
  rw [e1] at hne
  unfold two at hcut
  unfold two
  clear e1
  go_enter Tryz.func90, Tryz.ntmps90
  go_upto_region 1 with (fail)
  have bP := Blk.new w 38 #[.int .i64 (pl 0), .int .i64 (ph 0)]
  have tw := (Touch.refl [] w).alloc (.cells #[.int .i64 (pl 0), .int .i64 (ph 0)] 38)
  generalize w.alloc (.cells #[.int .i64 (pl 0), .int .i64 (ph 0)] 38) = wA at *
  have p0 := bP.cell 0
  have p1 := bP.cell 1
  have fp0 := bP.frozen 0
  have fp1 := bP.frozen 1
  go_wp2_with fail
  go_loopw [2] (fun i wr => wr = wA ∧ i = .int .i64 e0) (fun _ _ => 0)
  case atStart => exact ⟨rfl, rfl⟩
  case round =>
    obtain ⟨rfl, rfl⟩ := hrel
    go_wp2_with fail
    refine (hcut _).mono ?_
    rintro _ w1 ⟨rfl, t1⟩
    have TT := Lib.hid (tw.trans t1 (by simp))
    clear t1 hcut
    go_wp2_with fail
    go_ret
    exact ⟨rfl, TT.out⟩
/-- WHAT IS ROUNDED of any pair -/
theorem rounded_all (neg b0 : Bool) (m : Nat) (hm1 : m < 42535295865117307932921825928971026432) (hst : b0 = false ∨ 9007199254740992 ≤ m) (e0 : Int) (he0 : -20000 ≤ e0) (he1 : e0 ≤ 20000) (w : World) :
    Calls Tryz.prog 90 #[.bool neg, .agg (two m), .int .i64 e0, .bool b0] w fun x w' => x = .returned (.int .i64 (cellOf (Fl.Sr neg m e0 b0))) ∧ Touch [] w w' := by
  rcases Nat.eq_zero_or_pos m with rfl | h0
  · obtain rfl : b0 = false := by rcases hst with h | h; exact h; omega
    rw [Fl.Sr_exact, Fl.nearest_zero]
    exact rounded_nil neg e0 w
  · refine (rounded_pos neg b0 m h0 hm1 hst e0 he0 he1 w).mono ?_
    rintro _ w' ⟨v, hv, rfl, t⟩
    unfold CutIs at hv
    exact ⟨by rw [hv], t⟩

def belowR (a b : PartV) (f g : Int) : Bool := if a.kind = 2 ∧ b.kind = 2 ∧ a.m = 0 ∧ b.m = 0 then false else if a.neg ≠ b.neg then a.neg else if a.neg then decide (g < f) else decide (f < g)
set_option maxHeartbeats 3200000 in
theorem below_any (ka kb ma mb ea eb : Int) (sa sb : Bool) (f g : Int) (w : World) : Calls Tryz.prog 58 #[.agg (PartV.mk ka sa ma ea).cells, .agg (PartV.mk kb sb mb eb).cells, .int .i64 f, .int .i64 g] w
    fun e w' => e = .returned (.bool (belowR ⟨ka, sa, ma, ea⟩ ⟨kb, sb, mb, eb⟩ f g)) ∧ Touch [] w w' := by
  unfold PartV.cells
  obtain ⟨r, hr⟩ : ∃ r, belowR ⟨ka, sa, ma, ea⟩ ⟨kb, sb, mb, eb⟩ f g = r := ⟨_, rfl⟩
  unfold belowR at hr
  rw [show (belowR ⟨ka, sa, ma, ea⟩ ⟨kb, sb, mb, eb⟩ f g) = r from hr]
  have HR := Lib.hid hr
  clear hr
  dsimp only
  go_enter Tryz.func58, Tryz.ntmps58
  go_upto_region 1 with (fail)
  have bA := (Blk.new w 106 #[.int .i64 ka, .bool sa, .int .u64 ma, .int .i64 ea]).alloc (.cells #[.int .i64 kb, .bool sb, .int .u64 mb, .int .i64 eb] 106)
  have bB := Blk.new_at (n := w.heap.size + 1) (w.alloc (.cells #[.int .i64 ka, .bool sa, .int .u64 ma, .int .i64 ea] 106)) (by simp) 106 #[.int .i64 kb, .bool sb, .int .u64 mb, .int .i64 eb]
  have tw := ((Touch.refl [] w).alloc (.cells #[.int .i64 ka, .bool sa, .int .u64 ma, .int .i64 ea] 106)).alloc (.cells #[.int .i64 kb, .bool sb, .int .u64 mb, .int .i64 eb] 106)
  generalize (w.alloc (.cells #[.int .i64 ka, .bool sa, .int .u64 ma, .int .i64 ea] 106)).alloc (.cells #[.int .i64 kb, .bool sb, .int .u64 mb, .int .i64 eb] 106) = wA at *
  have a0 := bA.cell 0
  have a1 := bA.cell 1
  have a2 := bA.cell 2
  have b0 := bB.cell 0
  have b1 := bB.cell 1
  have b2 := bB.cell 2
  have TW := Lib.hid tw
  clear bA bB tw
  by_cases h1 : ka = 2 ∧ kb = 2 ∧ ma = 0 ∧ mb = 0
  · obtain rfl : false = r := by rw [← HR.out, if_pos h1]
    obtain ⟨rfl, rfl, rfl, rfl⟩ := h1
    clear HR
    go_wp2_with fail
    go_ret
    exact ⟨rfl, TW.out⟩
  · have hr2 := HR.out
    rw [if_neg h1] at hr2
    have HR2 := Lib.hid hr2
    clear hr2 HR
    have hc : (ka == 2) = false ∨ (ka == 2) = true ∧ (kb == 2) = false ∨ (ka == 2) = true ∧ (kb == 2) = true ∧ (ma == 0) = false ∨ (ka == 2) = true ∧ (kb == 2) = true ∧ (ma == 0) = true ∧ (mb == 0) = false := by
      simp only [beq_iff_eq, beq_eq_false_iff_ne]
      omega
    clear h1
    rcases hc with hc | ⟨hc1, hc⟩ | ⟨hc1, hc2, hc⟩ | ⟨hc1, hc2, hc3, hc⟩ <;> rcases sa with _ | _ <;> rcases sb with _ | _
    all_goals
      go_wp2_with fail
      go_ret
      refine ⟨?_, TW.out⟩
      rw [← HR2.out]
      rfl
def lesserR (a b : PartV) (f g : Int) (mn : Bool) : Int := if a.kind = 2 ∧ b.kind = 2 ∧ a.m = 0 ∧ b.m = 0 then cellOf (Ieee.double.word ((mn && (a.neg || b.neg)) || (a.neg && b.neg)) 0) else if belowR a b f g = mn then f else g
set_option maxHeartbeats 3200000 in
theorem lesser_any (ka kb ma mb ea eb : Int) (sa sb : Bool) (f g : Int) (mn : Bool) (w : World) : Calls Tryz.prog 62 #[.agg (PartV.mk ka sa ma ea).cells, .agg (PartV.mk kb sb mb eb).cells, .int .i64 f, .int .i64 g, .bool mn] w
    fun e w' => e = .returned (.int .i64 (lesserR ⟨ka, sa, ma, ea⟩ ⟨kb, sb, mb, eb⟩ f g mn)) ∧ Touch [] w w' := by
  have hB := fun W => below_any ka kb ma mb ea eb sa sb f g W
  have hsig := fun neg W => signedR_any neg 0 (by omega) W
  unfold PartV.cells at hB ⊢
  obtain ⟨r, hr⟩ : ∃ r, lesserR ⟨ka, sa, ma, ea⟩ ⟨kb, sb, mb, eb⟩ f g mn = r := ⟨_, rfl⟩
  obtain ⟨q, hq⟩ : ∃ q, belowR ⟨ka, sa, ma, ea⟩ ⟨kb, sb, mb, eb⟩ f g = q := ⟨_, rfl⟩
  rw [hr]
  unfold lesserR at hr
  rw [hq] at hr hB
  have HR := Lib.hid hr
  clear hr hq
  dsimp only at hB ⊢
  go_enter Tryz.func62, Tryz.ntmps62
  go_upto_region 1 with (fail)
  have bA := (Blk.new w 106 #[.int .i64 ka, .bool sa, .int .u64 ma, .int .i64 ea]).alloc (.cells #[.int .i64 kb, .bool sb, .int .u64 mb, .int .i64 eb] 106)
  have bB := Blk.new_at (n := w.heap.size + 1) (w.alloc (.cells #[.int .i64 ka, .bool sa, .int .u64 ma, .int .i64 ea] 106)) (by simp) 106 #[.int .i64 kb, .bool sb, .int .u64 mb, .int .i64 eb]
  have tw := ((Touch.refl [] w).alloc (.cells #[.int .i64 ka, .bool sa, .int .u64 ma, .int .i64 ea] 106)).alloc (.cells #[.int .i64 kb, .bool sb, .int .u64 mb, .int .i64 eb] 106)
  generalize (w.alloc (.cells #[.int .i64 ka, .bool sa, .int .u64 ma, .int .i64 ea] 106)).alloc (.cells #[.int .i64 kb, .bool sb, .int .u64 mb, .int .i64 eb] 106) = wA at *
  have a0 := bA.cell 0
  have a1 := bA.cell 1
  have a2 := bA.cell 2
  have a3 := bA.cell 3
  have b0 := bB.cell 0
  have b1 := bB.cell 1
  have b2 := bB.cell 2
  have b3 := bB.cell 3
  have TW := Lib.hid tw
  clear bA bB tw
  by_cases h1 : ka = 2 ∧ kb = 2 ∧ ma = 0 ∧ mb = 0
  · obtain rfl : cellOf (Ieee.double.word ((mn && (sa || sb)) || (sa && sb)) 0) = r := by rw [← HR.out, if_pos h1]
    obtain ⟨rfl, rfl, rfl, rfl⟩ := h1
    clear HR hB
    rcases mn with _ | _ <;> rcases sa with _ | _ <;> rcases sb with _ | _
    all_goals
      go_wp2_with fail
      refine (hsig _ _).mono ?_
      rintro _ _ ⟨rfl, rfl⟩
      go_wp2_with fail
      go_ret
      exact ⟨rfl, TW.out⟩
  · have hr2 := HR.out
    rw [if_neg h1] at hr2
    have HR2 := Lib.hid hr2
    clear hr2 hsig HR
    have hc : (ka == 2) = false ∨ (ka == 2) = true ∧ (kb == 2) = false ∨ (ka == 2) = true ∧ (kb == 2) = true ∧ (ma == 0) = false ∨ (ka == 2) = true ∧ (kb == 2) = true ∧ (ma == 0) = true ∧ (mb == 0) = false := by
      simp only [beq_iff_eq, beq_eq_false_iff_ne]
      omega
    clear h1
    rcases hc with hc | ⟨hc1, hc⟩ | ⟨hc1, hc2, hc⟩ | ⟨hc1, hc2, hc3, hc⟩ <;> rcases q with _ | _ <;> rcases mn with _ | _
    all_goals
      go_wp2_with fail
      refine (hB _).mono ?_
      rintro _ w1 ⟨rfl, t1⟩
      have TT := Lib.hid (TW.out.trans t1 (by simp))
      clear t1 hB
      go_wp2_with fail
      go_ret
      refine ⟨?_, TT.out⟩
      rw [← HR2.out]
      rfl
end Rn
end Go.Proofs.YtkbchpaofmlhgaaGreatDoor

/- Sums, products, quotients and the order of real numbers, told by whole numbers that are rounded. -/
namespace Go.Proofs.YtkbchpaofmlhgaaGreatDoor
namespace Fl
open Ieee

theorem word_le (neg : Bool) {r : Nat} (h : r ≤ 9218868437227405312) : rg (double.word neg r) ≤ 9218868437227405312 ∧ double.word neg r < 18446744073709551616 := by
  refine ⟨by rw [rg_word neg r (by omega)]; exact h, ?_⟩
  unfold Format.word
  rw [c_sign]
  split <;> omega
theorem nearest_rg (neg : Bool) (m : Nat) (p : Int) : rg (double.nearest neg m p) ≤ 9218868437227405312 ∧ double.nearest neg m p < 18446744073709551616 := by
  unfold Format.nearest
  split
  · exact word_le neg (by omega)
  · refine word_le neg ?_
    rw [c_inf]
    exact Nat.min_le_right _ _
theorem Sr_rg (neg : Bool) (N : Nat) (e : Int) (b : Bool) : rg (Sr neg N e b) ≤ 9218868437227405312 ∧ Sr neg N e b < 18446744073709551616 := nearest_rg _ _ _
/-- the sum of two numbers of units, perhaps a bit more of the first -/
def sumN (sx sy : Bool) (P Q : Nat) (e : Int) (more : Bool) : Nat :=
  if sx = sy then Sr sx (P + Q) e more else if P = Q ∧ more = false then 0 else if P < Q then Sr sy (Q - P) e more else Sr sx (P - Q) e more
theorem signed_nat (s : Bool) (m k : Nat) : signed s m k = if s then -((m * 2 ^ k : Nat) : Int) else ((m * 2 ^ k : Nat) : Int) := by
  unfold signed
  rw [Nat.shiftLeft_eq]
theorem sum_num (s t : Bool) (m n : Nat) (i j : Int) (h : j ≤ i) (P : Nat) (hP : m * 2 ^ (i - j).toNat = P) :
    Datum.sum (.number s m i) (.number t n j) = some (.number (if s = t then s else if P = n then false else if P < n then t else s) (if s = t then P + n else if P < n then n - P else P - n) j) := by
  unfold Datum.sum
  simp only [signed_nat]
  rw [show min i j = j by omega, hP, show (j - j).toNat = 0 by omega, Nat.pow_zero, Nat.mul_one]
  congr 1
  have key : ∀ (b b' : Bool) (a a' : Nat), b = b' → a = a' → Datum.number b a j = Datum.number b' a' j := by rintro b _ a _ rfl rfl; rfl
  refine key _ _ _ _ ?_ ?_
  · have e1 : ((P : Int) + -(n : Int) = 0) ↔ P = n := by omega
    have e2 : ((P : Int) + -(n : Int) < 0) ↔ P < n := by omega
    have e3 : (-(P : Int) + (n : Int) = 0) ↔ P = n := by omega
    have e4 : (-(P : Int) + (n : Int) < 0) ↔ ¬ P = n ∧ ¬ P < n := by omega
    cases s <;> cases t <;> simp [e1, e2, e3, e4]
    · omega
    · by_cases h1 : P = n
      · simp [h1]
      · simp [h1]
        by_cases h2 : P < n
        · rw [decide_eq_true h2, decide_eq_false (by omega)]; rfl
        · rw [decide_eq_false h2, decide_eq_true (by omega)]; rfl
    · omega
  · cases s <;> cases t <;> simp
    · omega
    · split <;> omega
    · split <;> omega
    · omega
theorem sum_comm (s t : Bool) (m n : Nat) (i j : Int) : Datum.sum (.number s m i) (.number t n j) = Datum.sum (.number t n j) (.number s m i) := by
  unfold Datum.sum
  simp only [signed_nat]
  rw [show min j i = min i j by omega, Int.add_comm, Bool.and_comm]
theorem write_sum (s t : Bool) (m n : Nat) (i j : Int) (h : j ≤ i) (P : Nat) (hP : m * 2 ^ (i - j).toNat = P) :
    (Datum.sum (.number s m i) (.number t n j)).map double.write = some (double.nearest (if s = t then s else if P = n then false else if P < n then t else s) (if s = t then P + n else if P < n then n - P else P - n) j) := by
  rw [sum_num s t m n i j h P hP]
  rfl
theorem sum_near (s t : Bool) (m n : Nat) (i j : Int) (h : j ≤ i) :
    (Datum.sum (.number s m i) (.number t n j)).map double.write = some (sumN s t (m * 2 ^ (i - j).toNat) n j false) := by
  rw [write_sum s t m n i j h _ rfl]
  generalize m * 2 ^ (i - j).toNat = P
  congr 1
  unfold sumN
  simp only [Sr_exact]
  by_cases h1 : s = t
  · rw [if_pos h1, if_pos h1, if_pos h1]
  · rw [if_neg h1, if_neg h1, if_neg h1]
    by_cases h2 : P = n
    · subst h2
      rw [if_pos (rfl : P = P), if_pos (⟨rfl, trivial⟩ : P = P ∧ True), if_neg (Nat.lt_irrefl P), Nat.sub_self, nearest_zero]
      rfl
    · rw [if_neg h2, if_neg (fun h => h2 h.1 : ¬ (P = n ∧ True))]
      by_cases h3 : P < n
      · rw [if_pos h3, if_pos h3, if_pos h3]
      · rw [if_neg h3, if_neg h3, if_neg h3]
theorem sum_far (s t : Bool) (m n : Nat) (i j : Int) (h : 64 < i - j) (hm : 4503599627370496 ≤ m) (hn : n < 9007199254740992) :
    (Datum.sum (.number s m i) (.number t n j)).map double.write = some (sumN s t (m * 2048) (if n ≠ 0 ∧ s ≠ t then 1 else 0) (i - 11) (decide (n ≠ 0))) := by
  obtain ⟨k, hk⟩ : ∃ k : Nat, (k : Int) + 1 = i - j - 11 := ⟨(i - j - 12).toNat, by omega⟩
  have hpow : m * 2 ^ (i - j).toNat = m * 2048 * 2 ^ (k + 1) := by
    rw [show (i - j).toNat = 11 + (k + 1) by omega, Nat.pow_add 2 11, ← Nat.mul_assoc]
  have hbig : (9007199254740992 : Nat) ≤ 2 ^ (k + 1) := Nat.le_trans (by decide : (9007199254740992 : Nat) ≤ 2 ^ 53) (Nat.pow_le_pow_right (by decide) (by omega))
  rw [write_sum s t m n i j (by omega) _ hpow]
  congr 1
  have hgt : n < m * 2048 * 2 ^ (k + 1) := Nat.lt_of_lt_of_le (by omega : n < 1 * 2 ^ (k + 1)) (Nat.mul_le_mul_right _ (by omega))
  obtain ⟨N, hN⟩ : ∃ N, m * 2048 = N := ⟨_, rfl⟩
  rw [hN] at hgt ⊢
  obtain ⟨B, hB⟩ : ∃ B, (2 : Nat) ^ (k + 1) = B := ⟨_, rfl⟩
  have hN2 : 9223372036854775808 ≤ N := by omega
  have hsucc : (N + 1) * B = N * B + B := Nat.succ_mul N B
  have hpred : N * B = (N - 1) * B + B := by
    obtain ⟨N', rfl⟩ : ∃ N', N = N' + 1 := ⟨N - 1, by omega⟩
    rw [Nat.succ_mul]; rfl
  have hsc := fun neg => nearest_scale neg N (k + 1) (i - 11)
  rw [show i - 11 - ((k + 1 : Nat) : Int) = j by omega] at hsc
  have hb1 := fun neg mag => nearest_between neg N (by omega) k mag j
  have hb2 := fun neg mag => nearest_between neg (N - 1) (by omega) k mag j
  rw [show j + (k : Int) = i - 11 - 1 by omega, show N - 1 + 1 = N by omega] at hb2
  rw [show j + (k : Int) = i - 11 - 1 by omega] at hb1
  rw [hB] at hgt hbig hsc hb1 hb2 ⊢
  unfold sumN
  by_cases h0 : n = 0
  · subst h0
    rw [if_neg (by simp : ¬ ((0 : Nat) ≠ 0 ∧ s ≠ t))]
    simp only [ne_eq, not_true_eq_false, decide_false, Sr_exact, Nat.add_zero, Nat.sub_zero]
    by_cases h1 : s = t
    · rw [if_pos h1, if_pos h1, if_pos h1, hsc]
    · rw [if_neg h1, if_neg h1, if_neg h1, if_neg (by omega), if_neg (by omega), if_neg (by omega), if_neg (by omega), if_neg (by omega), hsc]
  · rw [decide_eq_true h0]
    by_cases h1 : s = t
    · rw [if_neg (by simp [h1] : ¬ (n ≠ 0 ∧ s ≠ t)), if_pos h1, if_pos h1, if_pos h1]
      exact hb1 s _ (by omega) (by omega)
    · rw [if_pos (⟨h0, h1⟩ : n ≠ 0 ∧ s ≠ t), if_neg h1, if_neg h1, if_neg h1, if_neg (by omega), if_neg (by omega), if_neg (by omega), if_neg (by simp), if_neg (by omega)]
      exact hb2 s _ (by omega) (by omega)
/-- a quotient's bits, and whether something is left: with more bits it is rounded as before -/
theorem div_twice (A n : Nat) (hn : 0 < n) : 2 * A / n / 2 = A / n ∧ (decide (2 * A % n ≠ 0) || decide (2 * A / n % 2 = 1)) = decide (A % n ≠ 0) := by
  have hq := Nat.div_add_mod A n
  have hr := Nat.mod_lt A hn
  obtain ⟨q, hq0⟩ : ∃ q, A / n = q := ⟨_, rfl⟩
  obtain ⟨r, hr0⟩ : ∃ r, A % n = r := ⟨_, rfl⟩
  rw [hq0, hr0] at hq
  rw [hr0] at hr
  rw [hq0, hr0]
  have hc := Nat.mul_comm n q
  rcases Nat.lt_or_ge (2 * r) n with h | h
  · have e1 : 2 * A = 2 * r + n * (2 * q) := by rw [Nat.mul_left_comm]; omega
    have e2 : 2 * A / n = 2 * q := by rw [e1, Nat.add_mul_div_left _ _ hn, Nat.div_eq_of_lt h, Nat.zero_add]
    have e3 : 2 * A % n = 2 * r := by rw [e1, Nat.add_mul_mod_self_left, Nat.mod_eq_of_lt h]
    rw [e2, e3]
    refine ⟨by omega, ?_⟩
    by_cases h0 : r = 0
    · subst h0; simp
    · rw [decide_eq_true (by omega : 2 * r ≠ 0), decide_eq_true h0]; rfl
  · have e1 : 2 * A = (2 * r - n) + n * (2 * q + 1) := by rw [Nat.mul_add, Nat.mul_left_comm]; omega
    have e2 : 2 * A / n = 2 * q + 1 := by rw [e1, Nat.add_mul_div_left _ _ hn, Nat.div_eq_of_lt (by omega), Nat.zero_add]
    rw [e2]
    refine ⟨by omega, ?_⟩
    rw [decide_eq_true (by omega : (2 * q + 1) % 2 = 1), decide_eq_true (by omega : r ≠ 0), Bool.or_true]
theorem quo_long (s : Bool) (m n T : Nat) (d : Int) (hn : 0 < n) (hb : 9007199254740992 ≤ m * 2 ^ T / n) : ∀ c : Nat,
    9007199254740992 ≤ m * 2 ^ (T + c) / n ∧ Sr s (m * 2 ^ (T + c) / n) (d - (T + c : Nat)) (decide (m * 2 ^ (T + c) % n ≠ 0)) = Sr s (m * 2 ^ T / n) (d - T) (decide (m * 2 ^ T % n ≠ 0))
  | 0 => ⟨hb, rfl⟩
  | c + 1 => by
    obtain ⟨h1, h2⟩ := quo_long s m n T d hn hb c
    rw [show m * 2 ^ (T + (c + 1)) = 2 * (m * 2 ^ (T + c)) by rw [← Nat.add_assoc, Nat.pow_succ, ← Nat.mul_assoc, Nat.mul_comm]]
    obtain ⟨A, hA⟩ : ∃ A, m * 2 ^ (T + c) = A := ⟨_, rfl⟩
    rw [hA] at h1 h2 ⊢
    obtain ⟨h3, h4⟩ := div_twice A n hn
    refine ⟨by omega, ?_⟩
    rw [Sr_half s _ _ _ (.inl (by omega)), h3, h4, ← h2]
    congr 1
    omega
theorem quo_num (s t : Bool) (m n : Nat) (i j : Int) (hm : m < 9007199254740992) (hm0 : 0 < m) (hn : 0 < n) (c : Nat) (T : Nat) (hT : T = 54 + n.log2 - m.log2 + c) :
    (Datum.quotient 54 (.number s m i) (.number t n j)).map double.write = some (Sr (s != t) (m * 2 ^ T / n) (i - j - T) (decide (m * 2 ^ T % n ≠ 0))) := by
  subst hT
  have hl : m.log2 < 53 := (Nat.log2_lt (by omega)).2 hm
  have hbig : 9007199254740992 ≤ m * 2 ^ (54 + n.log2 - m.log2) / n := by
    rw [Nat.le_div_iff_mul_le hn]
    have h1 : 2 ^ m.log2 ≤ m := (Nat.le_log2 (by omega)).1 (Nat.le_refl _)
    have h2 : n < 2 ^ (n.log2 + 1) := (Nat.log2_lt (by omega)).1 (by omega)
    have h3 : 2 ^ m.log2 * 2 ^ (54 + n.log2 - m.log2) = 2 ^ 53 * 2 ^ (n.log2 + 1) := by
      rw [← Nat.pow_add, ← Nat.pow_add]; congr 1; omega
    exact Nat.le_trans (Nat.mul_le_mul_left _ (Nat.le_of_lt h2)) (by
      rw [show (9007199254740992 : Nat) = 2 ^ 53 by decide, ← h3]
      exact Nat.mul_le_mul_right _ h1)
  rw [(quo_long (s != t) m n _ (i - j) hn hbig c).2]
  unfold Datum.quotient
  simp only []
  rw [if_neg (by omega), Nat.shiftLeft_eq]
  simp only [Option.map_some]
  congr 1
  unfold Format.write Sr
  simp only []
  congr 1
  congr 1
  by_cases h0 : m * 2 ^ (54 + n.log2 - m.log2) % n = 0
  · simp [h0]
  · simp [h0]
theorem quo_nil (s t : Bool) (n : Nat) (i j : Int) (hn : 0 < n) (d : Int) : (Datum.quotient 54 (.number s 0 i) (.number t n j)).map double.write = some (Sr (s != t) 0 d false) := by
  rw [Sr_exact, nearest_zero]
  unfold Datum.quotient
  simp only []
  rw [if_neg (by omega), Nat.shiftLeft_eq, Nat.zero_mul, Nat.zero_div, Nat.zero_mod]
  simp only [Option.map_some]
  congr 1
/-- numbers, and what has no end, in their order -/
def Wv (x : Nat) : Int := if sg x then -(rg x : Int) else (rg x : Int)
theorem order_W {x y : Nat} (hx : rg x ≤ 9218868437227405312) (hy : rg y ≤ 9218868437227405312) : double.order x y = some (compare (Wv x) (Wv y)) := by
  rcases Nat.lt_or_ge (rg x) 9218868437227405312 with h1 | h1
  · rcases Nat.lt_or_ge (rg y) 9218868437227405312 with h2 | h2
    · rw [order_fin h1 h2]
      congr 1
      have hn : ∀ {a b : Nat}, Nv a < Nv b ↔ a < b := fun {a b} => ⟨fun h => by
        rcases Nat.lt_trichotomy a b with g | g | g
        · exact g
        · subst g; omega
        · have := Nv_lt g; omega, Nv_lt⟩
      have hz : Nv 0 = 0 := by decide
      have h0 : ∀ {a : Nat}, 0 < Nv a ↔ 0 < a := fun {a} => by have := @hn 0 a; rw [hz] at this; exact this
      have hi : ∀ {a b : Nat}, Nv a = Nv b ↔ a = b := fun {a b} => ⟨Nv_inj, fun h => by rw [h]⟩
      have n1 := @hn (rg x) (rg y)
      have n2 := @hn (rg y) (rg x)
      have n3 := @hi (rg x) (rg y)
      have z1 := @h0 (rg x)
      have z2 := @h0 (rg y)
      have hlt : Zv x < Zv y ↔ Wv x < Wv y := by
        unfold Zv Wv
        split <;> split <;> omega
      have heq : Zv x = Zv y ↔ Wv x = Wv y := by
        unfold Zv Wv
        split <;> split <;> omega
      rw [Int.compare_eq_ite_lt, Int.compare_eq_ite_lt]
      by_cases g1 : Zv x < Zv y
      · rw [if_pos g1, if_pos (hlt.1 g1)]
      · rw [if_neg g1, if_neg (fun h => g1 (hlt.2 h))]
        by_cases g2 : Zv x = Zv y
        · rw [if_neg (by omega), if_neg (by have := heq.1 g2; omega)]
        · rw [if_pos (by omega), if_pos (by have := fun h => g1 (hlt.2 h); have := fun h => g2 (heq.2 h); omega)]
    · have e2 : rg y = 9218868437227405312 := by omega
      unfold Format.order
      rw [read_fin h1, read_inf e2]
      unfold Datum.order Wv
      rw [e2]
      simp only []
      congr 1
      cases sg y
      · symm
        show compare _ ((9218868437227405312 : Nat) : Int) = Ordering.lt
        rw [Int.compare_eq_lt]; split <;> omega
      · symm
        show compare _ (-((9218868437227405312 : Nat) : Int)) = Ordering.gt
        rw [Int.compare_eq_gt]; split <;> omega
  · have e1 : rg x = 9218868437227405312 := by omega
    rcases Nat.lt_or_ge (rg y) 9218868437227405312 with h2 | h2
    · unfold Format.order
      rw [read_fin h2, read_inf e1]
      unfold Datum.order Wv
      rw [e1]
      simp only []
      congr 1
      cases sg x
      · symm
        show compare ((9218868437227405312 : Nat) : Int) _ = Ordering.gt
        rw [Int.compare_eq_gt]; split <;> omega
      · symm
        show compare (-((9218868437227405312 : Nat) : Int)) _ = Ordering.lt
        rw [Int.compare_eq_lt]; split <;> omega
    · have e2 : rg y = 9218868437227405312 := by omega
      unfold Format.order
      rw [read_inf e2, read_inf e1]
      unfold Wv
      rw [e1, e2]
      cases sg x <;> cases sg y <;> rfl
end Fl
end Go.Proofs.YtkbchpaofmlhgaaGreatDoor
