/- The contract of odd: an odd number and an exponent, of a finite number above 0. -/
import Derived.Test.YtibifcchmccknaaDoorReal2
import Derived.Test.YtibifcchmccknaaDoorFloat2
namespace Go.Proofs.YtibifcchmccknaaDoor
open Go.RowKit

theorem fin_nat {r : Nat} (h : r < 9218868437227405312) : Fl.fin r := by unfold Fl.fin Fl.rg; omega
/-- what is rounded down -/
def floW (q : Nat) : Nat := Ieee.double.write ((Ieee.double.read q).integral .down)
theorem floW_spec {q : Nat} (h : q < 9218868437227405312) : floW q < 9218868437227405312 ∧ Fl.Nv (floW q) = Fl.Iv q * Fl.U := by
  obtain ⟨p, hp, hv, he⟩ := Fl.floor_word h
  rw [Fl.word_false, Fl.word_false] at he
  unfold floW
  rw [he]
  exact ⟨hp, hv⟩
theorem Floor_pos (q : Nat) (h : q < 9218868437227405312) (w : World) : Calls Tryd.prog 25 #[.float .f64 q] w fun e w' => e = .returned (.float .f64 (floW q)) ∧ w = w' :=
  floor_any q _ w w (run_floor q (fin_nat h) w)

theorem order_pos {r q : Nat} (hr : r < 9218868437227405312) (hq : q < 9218868437227405312) : FloatKind.f64.format.order r q = some (compare (Fl.Nv r) (Fl.Nv q)) := by
  have := Fl.order_pos hr hq
  rw [Fl.word_false, Fl.word_false] at this
  exact this
theorem is_whole {q : Nat} (h : q < 9218868437227405312) : (FloatKind.f64.format.order q (floW q) != some .eq) = !(Fl.Nv q % Fl.U == 0) := by
  obtain ⟨h1, h2⟩ := floW_spec h
  rw [order_pos h h1, h2]
  have hd := Nat.div_add_mod (Fl.Nv q) Fl.U
  have he : Fl.Iv q * Fl.U = Fl.U * (Fl.Nv q / Fl.U) := by unfold Fl.Iv; exact Nat.mul_comm _ _
  by_cases h0 : Fl.Nv q % Fl.U = 0
  · rw [h0, Nat.add_zero] at hd
    rw [he, hd, Nat.compare_eq_eq.2 rfl, h0]
    rfl
  · rw [beq_eq_false_iff_ne.2 h0, Nat.compare_eq_gt.2 (by rw [he]; omega)]
    rfl

/-- the two steps -/
theorem twice_step {q : Nat} (h : q < 9218868437227405312) (h0 : Fl.Nv q % Fl.U ≠ 0) : ∃ p, p < 9218868437227405312 ∧ Fl.Nv p = 2 * Fl.Nv q ∧ q < p ∧ floatBits .mul .f64 q 4611686018427387904 = some p := by
  have hE := Fl.small_E h0
  rw [Fl.B_eq] at hE
  obtain ⟨p, hp, hv⟩ := Fl.double_rung (r := q) (by omega)
  have hm := Fl.mul_two h hp hv
  rw [Fl.word_false, Fl.word_false] at hm
  refine ⟨p, hp, hv, ?_, hm⟩
  rcases Nat.lt_trichotomy q p with h1 | h1 | h1
  · exact h1
  · subst h1
    have : Fl.Nv q = 0 := by omega
    rw [this, Nat.zero_mod] at h0
    exact absurd rfl h0
  · have := Fl.Nv_lt h1; omega
theorem half_step {q : Nat} (h : q < 9218868437227405312) (h0 : 9223372036854775808 * Fl.U ≤ Fl.Nv q) : ∃ p, p < 9218868437227405312 ∧ Fl.Nv q = 2 * Fl.Nv p ∧ p < q ∧ Fl.Nv p % Fl.U = 0 ∧ floatBits .quo .f64 q 4611686018427387904 = some p := by
  have hE : Fl.B + 10 < Fl.E q := Fl.big_E (by rw [show 53 + (Fl.B + 10) = 63 + Fl.B by omega, Nat.pow_add, ← Fl.U_eq]; exact h0)
  have hU := Fl.U_pos
  obtain ⟨p, hp, hv⟩ := Fl.half_rung h (by omega)
  have hm := Fl.div_two h hp hv
  rw [Fl.word_false, Fl.word_false] at hm
  refine ⟨p, hp, hv, ?_, ?_, hm⟩
  · rcases Nat.lt_trichotomy p q with h1 | h1 | h1
    · exact h1
    · subst h1
      have : Fl.Nv p = 0 := by omega
      omega
    · have := Fl.Nv_lt h1; omega
  · obtain ⟨k, hk⟩ : ∃ k, Fl.E q = (Fl.B + k) + 1 := ⟨Fl.E q - Fl.B - 1, by omega⟩
    have e : Fl.Nv p = Fl.M q * 2 ^ k * Fl.U := by
      have h2 : 2 * Fl.Nv p = 2 * (Fl.M q * 2 ^ k * Fl.U) := by
        rw [← hv, Fl.Nv, hk, Nat.pow_succ, Nat.pow_add, ← Fl.U_eq, Nat.mul_comm Fl.U, ← Nat.mul_assoc, Nat.mul_comm _ 2, Nat.mul_assoc (Fl.M q)]
      omega
    rw [e, Nat.mul_mod_left]

theorem word_63 : (4890909195324358656 : Nat) < 9218868437227405312 ∧ Fl.Nv 4890909195324358656 = 9223372036854775808 * Fl.U := by
  refine ⟨by decide, ?_⟩
  have e1 : Fl.M 4890909195324358656 = 4503599627370496 := by decide
  have e2 : Fl.E 4890909195324358656 = 1085 := by decide
  rw [Fl.Nv, e1, e2, Fl.U_eq, show 1085 = 11 + Fl.B by rw [Fl.B_eq], Nat.pow_add, ← Nat.mul_assoc]
theorem is_big {q : Nat} (h : q < 9218868437227405312) : (FloatKind.f64.format.order q 4890909195324358656 == some .gt || FloatKind.f64.format.order q 4890909195324358656 == some .eq) = decide (9223372036854775808 * Fl.U ≤ Fl.Nv q) := by
  rw [order_pos h word_63.1, word_63.2]
  rcases Nat.lt_trichotomy (Fl.Nv q) (9223372036854775808 * Fl.U) with h1 | h1 | h1
  · rw [Nat.compare_eq_lt.2 h1, decide_eq_false (by omega)]; rfl
  · rw [h1, Nat.compare_eq_eq.2 rfl, decide_eq_true (by omega)]; rfl
  · rw [Nat.compare_eq_gt.2 h1, decide_eq_true (by omega)]; rfl

/-- how far odd has come -/
def OddAt (r q a b : Nat) : Prop := q < 9218868437227405312 ∧ Fl.Nv q * 2 ^ a = Fl.Nv r * 2 ^ b ∧ 0 < q

set_option maxHeartbeats 2000000 in
theorem odd_any (r : Nat) (hr : r < 9218868437227405312) (h0 : 0 < r) (x : Nat) (hx : x < 18446744073709551616) (hrx : Fl.rg x = r) (w : World) (hT : TzTab w) :
    Calls Tryd.prog 40 #[.float .f64 x] w fun e w' => (∃ m t : Nat, m % 2 = 1 ∧ Fl.Nv r = m * 2 ^ t ∧ m < 9223372036854775808 ∧ e = .returned (.tuple #[.int .u64 m, .int .i64 ((t : Int) - 1074)])) ∧ w = w' := by
  have HT := Lib.hid hT
  clear hT
  go_enter Tryd.func40, Tryd.ntmps40
  go_wp2_with fail
  refine (abs_any x hx _).mono ?_
  rintro _ _ ⟨rfl, rfl⟩
  rw [hrx]
  clear hrx hx
  go_wp2_with fail
  go_loop [0, 4] (fun v i => ∃ q b : Nat, v = .float .f64 q ∧ i = .int .i64 (-(b : Int)) ∧ b ≤ 1074 ∧ OddAt r q 0 b) (fun v _ => match v with | .float _ q => 9218868437227405312 - q | _ => 0)
  case atStart => exact ⟨r, 0, rfl, rfl, by omega, hr, rfl, h0⟩
  case round =>
    obtain ⟨q, b, rfl, rfl, hb, hO⟩ := hrel
    have hw := is_whole hO.1
    have hq := hO.1
    by_cases hz : Fl.Nv q % Fl.U = 0
    · rw [hz] at hw
      have hw' : (FloatKind.f64.format.order q (floW q) != some .eq) = false := hw
      clear hw
      go_wp2_with fail
      refine (Floor_pos q hq _).mono ?_
      rintro _ _ ⟨rfl, rfl⟩
      go_wp2_with fail
      go_loop [0, 4] (fun v i => ∃ q a : Nat, v = .float .f64 q ∧ i = .int .i64 ((a : Int) - b) ∧ q + a ≤ 9218868437227405312 ∧ Fl.Nv q % Fl.U = 0 ∧ OddAt r q a b) (fun v _ => match v with | .float _ q => q | _ => 0)
      case atStart => exact ⟨q, 0, rfl, by simp, by omega, hz, hO⟩
      case round =>
        clear hz hO hq hw'
        obtain ⟨q, a, rfl, rfl, ha, hz, hO⟩ := hrel
        have hq := hO.1
        have hw := is_big hq
        by_cases hbig : 9223372036854775808 * Fl.U ≤ Fl.Nv q
        · obtain ⟨p, hp, hv, hqp, hz2, hm⟩ := half_step hq hbig
          have hrun := fun W => run_float_arith (P := Tryd.prog) W .quo 40 .f64 q 4611686018427387904 p hm
          rw [decide_eq_true hbig] at hw
          clear hbig hm hz
          go_wp2_with fail
          refine ⟨⟨p, a + 1, rfl, ?_, by omega, hz2, hp, ?_, ?_⟩, ?_⟩
          · go_num
          · rw [Nat.pow_succ, ← hO.2.1, hv, Nat.mul_comm 2 (Fl.Nv p), Nat.mul_assoc, Nat.mul_comm 2]
          · have h1 := hO.2.2
            rcases Nat.eq_zero_or_pos p with h2 | h2
            · subst h2
              have h3 : Fl.Nv 0 = 0 := by decide
              have h4 := Fl.Nv_lt h1
              omega
            · exact h2
          · exact hqp
        · rw [decide_eq_false hbig] at hw
          obtain ⟨m, hm⟩ : ∃ m, Fl.Iv q = m := ⟨_, rfl⟩
          have hNm : Fl.Nv q = m * Fl.U := by rw [← hm]; exact (Fl.div_back _ _ hz).symm
          have hpos : 0 < Fl.Nv q := by
            have h3 : Fl.Nv 0 = 0 := by decide
            have h4 := Fl.Nv_lt hO.2.2
            omega
          have hm0 : m ≠ 0 := by
            intro h
            rw [hNm, h, Nat.zero_mul] at hpos
            omega
          have hm63 : m < 9223372036854775808 := by
            rw [hNm] at hbig
            exact Nat.lt_of_mul_lt_mul_right (Nat.lt_of_not_le hbig)
          have hconv : floatToIntVal .f64 q .u64 = some (m : Int) := by
            have h1 : (FloatKind.f64.decode q).toInt .zero = some (m : Int) := by
              have h2 := Fl.toInt_fin (fin_nat hq)
              have e1 : Fl.sg q = false := by unfold Fl.sg; rw [show q / 9223372036854775808 = 0 by omega]; rfl
              have e2 : Fl.rg q = q := by unfold Fl.rg; omega
              rw [e1, e2, hm] at h2
              exact h2
            unfold floatToIntVal
            rw [h1]
            have e3 : IntKind.min .u64 = 0 := by decide
            have e4 : IntKind.max .u64 = 18446744073709551615 := by decide
            dsimp only
            rw [e3, e4, if_pos (by omega)]
          have hc := fun W => run_convert_float_int (P := Tryd.prog) W 40 51 .f64 .u64 q (m : Int) (by kernel_rfl) (by kernel_rfl) hconv
          obtain ⟨n, hn, hk⟩ := Lib.ctzFrom_spec 64 m (by omega) (by omega)
          have hctz : Lib.ctz 64 m = Lib.ctzFrom 64 m := by unfold Lib.ctz; rw [if_neg hm0]
          obtain ⟨k, hke⟩ : ∃ k, Lib.ctzFrom 64 m = k := ⟨_, rfl⟩
          rw [hke] at hn hk hctz
          have HN := Lib.hid hn
          have HM := Lib.hid hNm
          clear hconv hke hbig hpos hn hm hNm
          go_wp2_with fail
          refine (tz_any m (by omega) hm0 _ HT.out).mono ?_
          rintro _ _ ⟨rfl, rfl⟩
          rw [hctz]
          go_wp2_with fail
          have hn := HN.out
          have hNm := HM.out
          have h2 := hO.2.1
          go_ret2
          have hd : m / 2 ^ k = 2 * n + 1 := by rw [hn]; exact Nat.mul_div_cancel_left _ (Nat.two_pow_pos k)
          refine ⟨⟨2 * n + 1, k + 1074 + a - b, by omega, ?_, ?_, ret2 (vint ?_) (vint (by omega))⟩, rfl⟩
          · obtain ⟨t, ht⟩ : ∃ t, k + 1074 + a - b = t := ⟨_, rfl⟩
            have ht2 : k + Fl.B + a = t + b := by rw [Fl.B_eq]; omega
            rw [ht]
            refine Nat.eq_of_mul_eq_mul_right (Nat.two_pow_pos b) ?_
            rw [← h2, hNm, hn, Fl.U_eq, Nat.mul_assoc, ← Nat.pow_add, Nat.mul_assoc (2 * n + 1), ← Nat.pow_add, ← ht2, Nat.mul_comm (2 ^ k), Nat.mul_assoc, ← Nat.pow_add, Nat.add_assoc]
          · rw [← hd]
            exact Nat.lt_of_le_of_lt (Nat.div_le_self _ _) hm63
          · rw [← hd]
            exact (Int.natCast_ediv m (2 ^ k)).symm
    · have hlt : b < 1074 := by
        rcases Nat.lt_or_ge b 1074 with h | h
        · exact h
        · exfalso
          apply hz
          have h2 := hO.2.1
          rw [Nat.pow_zero, Nat.mul_one, show b = Fl.B by rw [Fl.B_eq]; omega, ← Fl.U_eq] at h2
          rw [h2, Nat.mul_mod_left]
      obtain ⟨p, hp, hv, hqp, hm⟩ := twice_step hq hz
      have hrun := fun W => run_float_arith (P := Tryd.prog) W .mul 40 .f64 q 4611686018427387904 p hm
      rw [beq_eq_false_iff_ne.2 hz] at hw
      have hw' : (FloatKind.f64.format.order q (floW q) != some .eq) = true := hw
      clear hw hz hm
      go_wp2_with fail
      refine (Floor_pos q hq _).mono ?_
      rintro _ _ ⟨rfl, rfl⟩
      go_wp2_with fail
      refine ⟨⟨p, b + 1, rfl, ?_, by omega, hp, ?_, by omega⟩, ?_⟩
      · go_num
      · have h2 := hO.2.1
        rw [Nat.pow_zero, Nat.mul_one] at h2 ⊢
        rw [hv, h2, Nat.pow_succ, Nat.mul_comm 2, Nat.mul_assoc]
      · show 9218868437227405312 - p < 9218868437227405312 - q
        omega

end Go.Proofs.YtibifcchmccknaaDoor
