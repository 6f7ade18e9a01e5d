import Derived.Test.YtkbchpaofmlhgaaGreatDoorBase
import Derived.Test.YtkbchpaofmlhgaaGreatDoorShelf7
import Derived.Test.YtkbchpaofmlhgaaGreatDoorWorld
import Derived.Laws.Bits64b
import Derived.Test.YtkbchpaofmlhgaaGreatDoorJDigA
import Derived.Handy
/- The plain law of bits.Div64: a quotient of two halves, guessed and mended. -/
namespace Go.Proofs.YtkbchpaofmlhgaaGreatDoor

/-- how a guess stands: the quotient q, what is left by the divisor's upper half -/
structure Guess (u a b m q r : Nat) : Prop where
  sum : q * a + r = u
  ge : (u * 4294967296 + m) / (a * 4294967296 + b) ≤ q
  low : r < 4294967296
  top : q ≤ 4294967297
theorem guess_start {u a b m : Nat} (ha : 2147483648 ≤ a) (ha2 : a < 4294967296) (hb : b < 4294967296) (hm : m < 4294967296) (hu : u < a * 4294967296 + b) : Guess u a b m (u / a) (u % a) := by
  have ha0 : 0 < a := by omega
  have hlt : u % a < a := Nat.mod_lt _ ha0
  refine ⟨by rw [Nat.mul_comm]; exact Nat.div_add_mod u a, ?_, by omega, ?_⟩
  · rw [Nat.le_div_iff_mul_le ha0]
    have h1 := Nat.div_mul_le_self (u * 4294967296 + m) (a * 4294967296 + b)
    generalize (u * 4294967296 + m) / (a * 4294967296 + b) = Q at *
    have h2 : Q * (a * 4294967296 + b) = Q * a * 4294967296 + Q * b := by rw [Nat.mul_add, Nat.mul_assoc]
    omega
  · have h3 : u / a < 4294967298 := by
      rw [Nat.div_lt_iff_lt_mul ha0]
      omega
    omega
theorem div_lt {u a b m : Nat} (hm : m < 4294967296) (hu : u < a * 4294967296 + b) : (u * 4294967296 + m) / (a * 4294967296 + b) < 4294967296 := by
  rw [Nat.div_lt_iff_lt_mul (by omega)]
  omega
theorem guess_right {u a b m q r : Nat} (h : Guess u a b m q r) (h0 : 0 < a) (hle : q * b ≤ 4294967296 * r + m) : (u * 4294967296 + m) / (a * 4294967296 + b) = q := by
  refine Nat.le_antisymm h.ge ?_
  rw [Nat.le_div_iff_mul_le (by omega)]
  have h2 : q * (a * 4294967296 + b) = q * a * 4294967296 + q * b := by rw [Nat.mul_add, Nat.mul_assoc]
  have h3 := h.sum
  omega
theorem guess_more {u a b m q r : Nat} (h : Guess u a b m q r) (hm : m < 4294967296) (hu : u < a * 4294967296 + b) (hgt : 4294967296 ≤ q ∨ 4294967296 * r + m < q * b) : 1 ≤ q ∧ (u * 4294967296 + m) / (a * 4294967296 + b) ≤ q - 1 ∧ (q - 1) * a + (r + a) = u := by
  have h3 := h.sum
  have h4 := div_lt (a := a) (b := b) hm hu
  have hq : (u * 4294967296 + m) / (a * 4294967296 + b) < q := by
    rcases hgt with h1 | h1
    · omega
    · rw [Nat.div_lt_iff_lt_mul (by omega)]
      have h2 : q * (a * 4294967296 + b) = q * a * 4294967296 + q * b := by rw [Nat.mul_add, Nat.mul_assoc]
      omega
  obtain ⟨Q, hQ⟩ : ∃ Q, (u * 4294967296 + m) / (a * 4294967296 + b) = Q := ⟨_, rfl⟩
  rw [hQ] at hq h4 ⊢
  have h5 : (q - 1) * a + a = q * a := by
    obtain ⟨k, rfl⟩ : ∃ k, q = k + 1 := ⟨q - 1, by omega⟩
    rw [Nat.add_sub_cancel, Nat.succ_mul]
  exact ⟨by omega, by omega, by omega⟩
/-- the guess is mended once: it goes on, or it is right -/
theorem guess_on {u a b m q r : Nat} (h : Guess u a b m q r) (hm : m < 4294967296) (hu : u < a * 4294967296 + b) (hgt : 4294967296 ≤ q ∨ 4294967296 * r + m < q * b) (hlow : r + a < 4294967296) : Guess u a b m (q - 1) (r + a) := by
  obtain ⟨h1, h2, h3⟩ := guess_more h hm hu hgt
  exact ⟨h3, h2, hlow, by have := h.top; omega⟩
theorem guess_break {u a b m q r : Nat} (h : Guess u a b m q r) (ha : 0 < a) (hb : b < 4294967296) (hm : m < 4294967296) (hu : u < a * 4294967296 + b) (hgt : 4294967296 ≤ q ∨ 4294967296 * r + m < q * b) (hbig : ¬ r + a < 4294967296) : (u * 4294967296 + m) / (a * 4294967296 + b) = q - 1 := by
  obtain ⟨h1, h2, h3⟩ := guess_more h hm hu hgt
  refine Nat.le_antisymm h2 ?_
  rw [Nat.le_div_iff_mul_le (by omega)]
  have h4 : (q - 1) * (a * 4294967296 + b) = (q - 1) * a * 4294967296 + (q - 1) * b := by rw [Nat.mul_add, Nat.mul_assoc]
  have h5 : (q - 1) * b ≤ 4294967296 * 4294967296 := Nat.mul_le_mul (by have := h.top; omega) (by omega)
  omega
/-- both halves together -/
theorem two_steps (u m1 m0 Y : Nat) (hY : 0 < Y) :
    ((u * 4294967296 + m1) % Y) < Y ∧ ((u * 4294967296 + m1) / Y) * 4294967296 + ((u * 4294967296 + m1) % Y * 4294967296 + m0) / Y = (u * 18446744073709551616 + (m1 * 4294967296 + m0)) / Y ∧
      ((u * 4294967296 + m1) % Y * 4294967296 + m0) % Y = (u * 18446744073709551616 + (m1 * 4294967296 + m0)) % Y := by
  have h1 := Nat.div_add_mod (u * 4294967296 + m1) Y
  have hr := Nat.mod_lt (u * 4294967296 + m1) hY
  obtain ⟨q1, hq1⟩ : ∃ q1, (u * 4294967296 + m1) / Y = q1 := ⟨_, rfl⟩
  obtain ⟨r1, hr1⟩ : ∃ r1, (u * 4294967296 + m1) % Y = r1 := ⟨_, rfl⟩
  rw [hq1, hr1] at h1
  rw [hr1] at hr
  rw [hq1, hr1]
  have e : u * 18446744073709551616 + (m1 * 4294967296 + m0) = (r1 * 4294967296 + m0) + Y * (q1 * 4294967296) := by
    have : Y * (q1 * 4294967296) = Y * q1 * 4294967296 := by rw [Nat.mul_assoc]
    omega
  refine ⟨hr, ?_, ?_⟩
  · rw [e, Nat.add_mul_div_left _ _ hY, Nat.add_comm]
  · rw [e, Nat.add_mul_mod_self_left]
/-- shifted both, a quotient stays -/
theorem shift_div (n y s : Nat) : (n * 2 ^ s) / (y * 2 ^ s) = n / y := Nat.mul_div_mul_right _ _ (Nat.two_pow_pos s)
theorem shift_mod (n y s : Nat) : (n * 2 ^ s) % (y * 2 ^ s) / 2 ^ s = n % y := by
  rw [Nat.mul_mod_mul_right, Nat.mul_div_cancel _ (Nat.two_pow_pos s)]
end Go.Proofs.YtkbchpaofmlhgaaGreatDoor

/- bits.Div64 of any two halves. Printed by div.py. -/
namespace Go.Proofs.YtkbchpaofmlhgaaGreatDoor
open Go.RowKit

theorem wnat (n : Nat) : IntKind.u64.wrap (n : Int) = ((n % 18446744073709551616 : Nat) : Int) := by rw [IntKind.wrap_u64]; omega
theorem wmul (a b : Nat) : IntKind.u64.wrap ((a : Int) * (b : Int)) = ((a * b % 18446744073709551616 : Nat) : Int) := by rw [← Int.natCast_mul, wnat]
theorem wpow (a s : Nat) : IntKind.u64.wrap ((a : Int) * 2 ^ s) = ((a * 2 ^ s % 18446744073709551616 : Nat) : Int) := by
  rw [show ((a : Int) * 2 ^ s) = ((a * 2 ^ s : Nat) : Int) by simp, wnat]
theorem low32 (a : Nat) (ha : a < 18446744073709551616) : bits .and .u64 (a : Int) 4294967295 = ((a % 4294967296 : Nat) : Int) := by
  have h := bits_and_u64_nat a 4294967295 ha (by decide)
  rw [show (4294967295 : Nat) = 2 ^ 32 - 1 from rfl, Nat.and_two_pow_sub_one_eq_mod] at h
  exact h
theorem or_low {H L s : Nat} (hL : L < 2 ^ s) (h : H * 2 ^ s < 18446744073709551616) (hs : s ≤ 63) : bits .or .u64 ((H * 2 ^ s : Nat) : Int) (L : Int) = ((H * 2 ^ s + L : Nat) : Int) := by
  have h2 : (2 : Nat) ^ s ≤ 2 ^ 63 := Nat.pow_le_pow_right (by decide) hs
  rw [bits_or_u64_nat _ _ h (by omega)]
  congr 1
  rw [Nat.mul_comm]
  exact (Nat.two_pow_add_eq_or_of_lt hL H).symm
theorem halves_T {h l p k V u T : Nat} (e : k * p = T) (hp : 0 < p) (hk : 0 < k) (hl : l < T) (hV : l * p % T = V) (hu : h * p + l / k = u) : u * T + V = (h * T + l) * p ∧ l / k < p := by
  have h1 : l * p / T = l / k := by rw [← e]; exact Nat.mul_div_mul_right _ _ hp
  have h2 := Nat.div_add_mod (l * p) T
  rw [h1, hV] at h2
  refine ⟨?_, ?_⟩
  · rw [← hu, Nat.add_mul, Nat.add_mul, ← h2]
    have h3 : h * p * T = h * T * p := by rw [Nat.mul_assoc, Nat.mul_comm p, ← Nat.mul_assoc]
    have h4 : l / k * T = T * (l / k) := Nat.mul_comm _ _
    omega
  · rw [Nat.div_lt_iff_lt_mul hk, Nat.mul_comm, e]
    exact hl
/-- two halves, shifted -/
theorem halves (h l s V u : Nat) (hl : l < 18446744073709551616) (hs : s ≤ 63) (hV : l * 2 ^ s % 18446744073709551616 = V) (hu : h * 2 ^ s + l / 2 ^ (64 - s) = u) : u * 18446744073709551616 + V = (h * 18446744073709551616 + l) * 2 ^ s ∧ l / 2 ^ (64 - s) < 2 ^ s :=
  halves_T (by rw [← Nat.pow_add, show 64 - s + s = 64 by omega]) (Nat.two_pow_pos _) (Nat.two_pow_pos _) hl hV hu
set_option maxRecDepth 100000 in
set_option maxHeartbeats 16000000 in
theorem div64_bigR (h l y R1 R2 : Nat) (hh : 0 < h) (hl : l < 18446744073709551616) (hy : y < 18446744073709551616) (hhy : h < y) (hR1 : (h * 18446744073709551616 + l) / y = R1) (hR2 : (h * 18446744073709551616 + l) % y = R2) (w : World) :
    Calls Tryz.prog 218 #[.int .u64 h, .int .u64 l, .int .u64 y] w fun e w' => e = .returned (.tuple #[.int .u64 (R1 : Nat), .int .u64 (R2 : Nat)]) ∧ Touch [] w w' := by
  have hLZ := fun W => Tryz.bits_LeadingZeros64 (y : Int) W (by omega) (by omega)
  obtain ⟨hb1, hb2, hb3⟩ := Lib.bitLenAux_bounds 64 y (by omega) (by omega)
  have hle := Lib.bitLen_le y 64 (by omega) (by omega)
  obtain ⟨s, hs⟩ : ∃ s, Lib.bitLen y + s = 64 := ⟨64 - Lib.bitLen y, by omega⟩
  rw [Int.toNat_natCast, show (64 : Int) - (Lib.bitLen y : Int) = (s : Int) by omega] at hLZ
  have hs1 : 1 ≤ Lib.bitLen y := hb1
  have hb2 : 2 ^ (Lib.bitLen y - 1) ≤ y := hb2
  have hb3 : y < 2 ^ Lib.bitLen y := hb3
  have es : (2 : Nat) ^ Lib.bitLen y * 2 ^ s = 18446744073709551616 := by rw [← Nat.pow_add, hs]
  have es2 : (2 : Nat) ^ (Lib.bitLen y - 1) * 2 ^ s = 9223372036854775808 := by rw [← Nat.pow_add, show Lib.bitLen y - 1 + s = 63 by omega]
  have hp : 0 < 2 ^ s := Nat.two_pow_pos s
  have hY1 : 9223372036854775808 ≤ y * 2 ^ s := by rw [← es2]; exact Nat.mul_le_mul_right _ hb2
  have hY2 : y * 2 ^ s < 18446744073709551616 := by rw [← es]; exact Nat.mul_lt_mul_of_pos_right hb3 hp
  have hs63 : s ≤ 63 := by omega
  have ew : IntKind.u64.wrap (s : Int) = s := by rw [IntKind.wrap_u64]; omega
  clear hb1 hb2 hb3 hle es es2
  have hH : h * 2 ^ s < y * 2 ^ s := Nat.mul_lt_mul_of_pos_right hhy hp
  have hR1lt : R1 < 18446744073709551616 := by rw [← hR1, Nat.div_lt_iff_lt_mul (by omega)]; omega
  obtain ⟨Y, hY⟩ : ∃ Y, y * 2 ^ s = Y := ⟨_, rfl⟩
  obtain ⟨V, hV⟩ : ∃ V, l * 2 ^ s % 18446744073709551616 = V := ⟨_, rfl⟩
  obtain ⟨L, hL⟩ : ∃ L, l / 2 ^ (64 - s) = L := ⟨_, rfl⟩
  obtain ⟨u, hu⟩ : ∃ u, h * 2 ^ s + L = u := ⟨_, rfl⟩
  obtain ⟨hN, hL2⟩ := halves h l s V u hl hs63 hV (by rw [hL]; exact hu)
  rw [hL] at hL2
  have f1 : IntKind.u64.wrap ((y : Int) * 2 ^ s) = (Y : Int) := by rw [wpow, hY, Nat.mod_eq_of_lt (by omega)]
  have f4 : IntKind.u64.wrap ((h : Int) * 2 ^ s) = ((h * 2 ^ s : Nat) : Int) := by rw [wpow, Nat.mod_eq_of_lt (by omega)]
  have f5 : (l : Int) / 2 ^ (64 - s) = (L : Int) := by rw [← hL]; simp
  have f6 := or_low (H := h) hL2 (by omega) hs63
  rw [hu] at f6
  have f7 : IntKind.u64.wrap ((l : Int) * 2 ^ s) = (V : Int) := by rw [wpow, hV]
  have hend1 : (u * 18446744073709551616 + V) / Y = R1 := by rw [hN, ← hY, shift_div, hR1]
  have hend2 : (u * 18446744073709551616 + V) % Y / 2 ^ s = R2 := by rw [hN, ← hY, shift_mod, hR2]
  have huY : u < Y := by
    have h1 : u * 18446744073709551616 + V < Y * 18446744073709551616 := by
      rw [hN, ← hY]
      have h2 : (h * 18446744073709551616 + l) * 2 ^ s < (y * 18446744073709551616) * 2 ^ s := Nat.mul_lt_mul_of_pos_right (by omega) hp
      rw [show y * 2 ^ s * 18446744073709551616 = y * 18446744073709551616 * 2 ^ s by rw [Nat.mul_assoc, Nat.mul_comm (2 ^ s), ← Nat.mul_assoc]]
      exact h2
    omega
  obtain ⟨H, hHH⟩ : ∃ H, h * 2 ^ s = H := ⟨_, rfl⟩
  rw [hHH] at f4 f6 hu
  rw [hY] at hY1 hY2
  have hV2 : V < 18446744073709551616 := by rw [← hV]; exact Nat.mod_lt _ (by decide)
  obtain ⟨a, ha⟩ : ∃ a, Y / 4294967296 = a := ⟨_, rfl⟩
  obtain ⟨b, hb⟩ : ∃ b, Y % 4294967296 = b := ⟨_, rfl⟩
  obtain ⟨m1, hm1⟩ : ∃ m, V / 4294967296 = m := ⟨_, rfl⟩
  obtain ⟨m0, hm0⟩ : ∃ m, V % 4294967296 = m := ⟨_, rfl⟩
  have f2 : (Y : Int) / 4294967296 = (a : Int) := by omega
  have f3 : bits .and .u64 (Y : Int) 4294967295 = (b : Int) := by rw [low32 Y hY2, hb]
  have f8 : (V : Int) / 4294967296 = (m1 : Int) := by omega
  have f9 : bits .and .u64 (V : Int) 4294967295 = (m0 : Int) := by rw [low32 V hV2, hm0]
  have hYab : Y = a * 4294967296 + b := by omega
  have hVm : V = m1 * 4294967296 + m0 := by omega
  have ha1 : 2147483648 ≤ a := by omega
  have ha2 : a < 4294967296 := by omega
  have hb2 : b < 4294967296 := by omega
  have hm12 : m1 < 4294967296 := by omega
  have hm02 : m0 < 4294967296 := by omega
  have hu2 : u < a * 4294967296 + b := by omega
  have hst := two_steps u m1 m0 Y (by omega)
  rw [← hVm, hend1] at hst
  have HS2 : Hid ((u * 4294967296 + m1) % Y < Y ∧ (u * 4294967296 + m1) / Y * 4294967296 + ((u * 4294967296 + m1) % Y * 4294967296 + m0) / Y = R1 ∧ ((u * 4294967296 + m1) % Y * 4294967296 + m0) % Y / 2 ^ s = R2) := ⟨hst.1, hst.2.1, by rw [hst.2.2]; exact hend2⟩
  obtain ⟨q9, hq9⟩ : ∃ q9, u / a = q9 := ⟨_, rfl⟩
  obtain ⟨r9, hr9⟩ : ∃ r9, u % a = r9 := ⟨_, rfl⟩
  have hgs := guess_start (m := m1) ha1 ha2 hb2 hm12 hu2
  rw [hq9, hr9] at hgs
  have t1 : (u : Int).tdiv a = (q9 : Int) := by rw [← hq9]; exact Int.ofNat_tdiv u a
  have hq0t := hgs.top
  have t2 : IntKind.u64.wrap (q9 : Int) = (q9 : Int) := by rw [IntKind.wrap_u64]; omega
  obtain ⟨P9, hP9⟩ : ∃ P9, q9 * a = P9 := ⟨_, rfl⟩
  have hsum := hgs.sum
  rw [hP9] at hsum
  have t3 : IntKind.u64.wrap ((q9 : Int) * a) = (P9 : Int) := by rw [wmul, hP9, Nat.mod_eq_of_lt (by omega)]
  have t4 : IntKind.u64.wrap ((u : Int) - P9) = (r9 : Int) := by rw [IntKind.wrap_u64]; omega
  have g1 : ((y : Int) == 0) = false := beq_eq_false_iff_ne.2 (by omega)
  have g2 : ¬ (y : Int) ≤ h := by omega
  have g3 : ((h : Int) == 0) = false := beq_eq_false_iff_ne.2 (by omega)
  have g5 : ¬ a = 0 := by omega
  have g4 : ((a : Int) == 0) = false := beq_eq_false_iff_ne.2 (by omega)
  have HGu := Lib.hid hgs
  have HB := Lib.hid (And.intro ha1 (And.intro ha2 (And.intro hb2 (And.intro hm12 (And.intro hm02 (And.intro hu2 (And.intro hYab hR1lt)))))))
  clear hend1 hend2 hst hgs hq0t hsum hP9 hq9 hr9 hN hL2 hV hL hu hHH hH hY hY1 hY2 hV2 ha hb hm1 hm0 hVm huY hp hs hs1 hR1 hR2 hh hl hy hhy ha1 ha2 hb2 hm12 hm02 hu2 hYab hR1lt
  go_enter Tryz.func218, Tryz.ntmps218
  go_wp2_with fail
  refine (hLZ _).mono ?_
  clear hLZ
  rintro _ w ⟨rfl, rfl⟩
  go_wp2_with fail
  go_loopw [15, 16] (fun qv rv wr => ∃ q r : Nat, qv = .int .u64 q ∧ rv = .int .u64 r ∧ Guess u a b m1 q r ∧ w = wr) (fun qv _ _ => (intOf qv).toNat)
  case atStart => exact ⟨_, _, rfl, rfl, HGu.out, rfl⟩
  case round =>
    obtain ⟨q, r, rfl, rfl, hG, rfl⟩ := hrel
    obtain ⟨ha1, ha2, hb2, hm12, hm02, hu2, hYab, hR1lt⟩ := HB.out
    have hlow := hG.low
    have htop := hG.top
    by_cases hA : 4294967296 ≤ q
    · have cA : (q : Int) ≥ 4294967296 := by omega
      obtain ⟨q2, hq2⟩ : ∃ q2, q - 1 = q2 := ⟨_, rfl⟩
      obtain ⟨r2, hr2⟩ : ∃ r2, r + a = r2 := ⟨_, rfl⟩
      have hq1 := (guess_more hG hm12 hu2 (.inl hA)).1
      have kq : IntKind.u64.wrap ((q : Int) - 1) = (q2 : Int) := by rw [IntKind.wrap_u64]; omega
      have kr : IntKind.u64.wrap ((r : Int) + a) = (r2 : Int) := by rw [IntKind.wrap_u64]; omega
      by_cases hC : r + a < 4294967296
      · have cC : ¬ (r2 : Int) ≥ 4294967296 := by omega
        have hG2 := guess_on hG hm12 hu2 (.inl hA) hC
        rw [hq2, hr2] at hG2
        have HG2 := Lib.hid (And.intro hG2 (show q2 < q by omega))
        clear hG hG2 hq1 hC hq2 hr2 hlow htop ha1 ha2 hb2 hm12 hm02 hu2 hYab hR1lt
        go_wp2_with fail
        refine ⟨⟨q2, r2, rfl, rfl, HG2.out.1, by first | trivial | rfl⟩, ?_⟩
        have h2 := HG2.out.2
        simp only [intOf]
        omega
      · have cC : (r2 : Int) ≥ 4294967296 := by omega
        have hQ := guess_break hG (show 0 < a by omega) hb2 hm12 hu2 (.inl hA) hC
        rw [hq2] at hQ
        clear hG hq1 hC hq2 hr2 hlow htop
        rw [← hYab] at hQ
        obtain ⟨hst1, hst2, hst3⟩ := HS2.out
        have hmod := Nat.div_add_mod (u * 4294967296 + m1) Y
        rw [hQ] at hmod hst2
        obtain ⟨U, hU⟩ : ∃ U, (u * 4294967296 + m1) % Y = U := ⟨_, rfl⟩
        rw [hU] at hmod hst1 hst2 hst3
        have hU2 : U < a * 4294967296 + b := by rw [← hYab]; exact hst1
        obtain ⟨P1, hP1⟩ : ∃ P1, Y * q2 = P1 := ⟨_, rfl⟩
        rw [hP1] at hmod
        obtain ⟨C1, hC1⟩ : ∃ C1, u * 4294967296 % 18446744073709551616 = C1 := ⟨_, rfl⟩
        obtain ⟨C2, hC2⟩ : ∃ C2, (C1 + m1) % 18446744073709551616 = C2 := ⟨_, rfl⟩
        obtain ⟨C3, hC3⟩ : ∃ C3, P1 % 18446744073709551616 = C3 := ⟨_, rfl⟩
        have k1 : IntKind.u64.wrap ((u : Int) * 4294967296) = (C1 : Int) := by rw [IntKind.wrap_u64]; omega
        have k2 : IntKind.u64.wrap ((C1 : Int) + m1) = (C2 : Int) := by rw [IntKind.wrap_u64]; omega
        have k3 : IntKind.u64.wrap ((q2 : Int) * Y) = (C3 : Int) := by rw [wmul, Nat.mul_comm, hP1, hC3]
        have k4 : IntKind.u64.wrap ((C2 : Int) - C3) = (U : Int) := by rw [IntKind.wrap_u64]; omega
        obtain ⟨q0, hq0⟩ : ∃ q0, U / a = q0 := ⟨_, rfl⟩
        obtain ⟨r0, hr0⟩ : ∃ r0, U % a = r0 := ⟨_, rfl⟩
        have hgs := guess_start (m := m0) ha1 ha2 hb2 hm02 hU2
        rw [hq0, hr0] at hgs
        have s1 : (U : Int).tdiv a = (q0 : Int) := by rw [← hq0]; exact Int.ofNat_tdiv U a
        have hq0t := hgs.top
        have s2 : IntKind.u64.wrap (q0 : Int) = (q0 : Int) := by rw [IntKind.wrap_u64]; omega
        obtain ⟨P2, hP2⟩ : ∃ P2, q0 * a = P2 := ⟨_, rfl⟩
        have hsum := hgs.sum
        rw [hP2] at hsum
        have s3 : IntKind.u64.wrap ((q0 : Int) * a) = (P2 : Int) := by rw [wmul, hP2, Nat.mod_eq_of_lt (by omega)]
        have s4 : IntKind.u64.wrap ((U : Int) - P2) = (r0 : Int) := by rw [IntKind.wrap_u64]; omega
        have HGU := Lib.hid hgs
        have HST := Lib.hid (And.intro hU2 (And.intro hst2 hst3))
        clear hQ hst1 hst2 hst3 hmod hU hU2 hP1 hC1 hC2 hC3 hq0 hr0 hgs hq0t hP2 hsum ha1 ha2 hb2 hm12 hm02 hu2 hYab hR1lt
        go_wp2_with fail
        go_loopw [18, 16] (fun qv rv wr => ∃ e f : Nat, qv = .int .u64 e ∧ rv = .int .u64 f ∧ Guess U a b m0 e f ∧ w = wr) (fun qv _ _ => (intOf qv).toNat)
        case atStart => exact ⟨_, _, rfl, rfl, HGU.out, rfl⟩
        case round =>
          obtain ⟨e, f, rfl, rfl, hG, rfl⟩ := hrel
          obtain ⟨ha1, ha2, hb2, hm12, hm02, hu2, hYab, hR1lt⟩ := HB.out
          have hlow := hG.low
          have htop := hG.top
          by_cases hA : 4294967296 ≤ e
          · have cA : (e : Int) ≥ 4294967296 := by omega
            obtain ⟨e2, hq2⟩ : ∃ e2, e - 1 = e2 := ⟨_, rfl⟩
            obtain ⟨f2, hr2⟩ : ∃ f2, f + a = f2 := ⟨_, rfl⟩
            have hq1 := (guess_more hG hm02 HST.out.1 (.inl hA)).1
            have kq : IntKind.u64.wrap ((e : Int) - 1) = (e2 : Int) := by rw [IntKind.wrap_u64]; omega
            have kr : IntKind.u64.wrap ((f : Int) + a) = (f2 : Int) := by rw [IntKind.wrap_u64]; omega
            by_cases hC : f + a < 4294967296
            · have cC : ¬ (f2 : Int) ≥ 4294967296 := by omega
              have hG2 := guess_on hG hm02 HST.out.1 (.inl hA) hC
              rw [hq2, hr2] at hG2
              have HG2 := Lib.hid (And.intro hG2 (show e2 < e by omega))
              clear hG hG2 hq1 hC hq2 hr2 hlow htop ha1 ha2 hb2 hm12 hm02 hu2 hYab hR1lt
              go_wp2_with fail
              refine ⟨⟨e2, f2, rfl, rfl, HG2.out.1, by first | trivial | rfl⟩, ?_⟩
              have h2 := HG2.out.2
              simp only [intOf]
              omega
            · have cC : (f2 : Int) ≥ 4294967296 := by omega
              have hQ := guess_break hG (show 0 < a by omega) hb2 hm02 HST.out.1 (.inl hA) hC
              rw [hq2] at hQ
              clear hG hq1 hC hq2 hr2 hlow htop
              rw [← hYab] at hQ
              obtain ⟨hU3, hd1, hd2⟩ := HST.out
              rw [hQ] at hd1
              have hmod := Nat.div_add_mod (U * 4294967296 + m0) Y
              rw [hQ] at hmod
              obtain ⟨Z, hZ⟩ : ∃ Z, (U * 4294967296 + m0) % Y = Z := ⟨_, rfl⟩
              have hZY : Z < Y := by rw [← hZ]; exact Nat.mod_lt _ (by omega)
              rw [hZ] at hmod hd2
              obtain ⟨P0, hP0⟩ : ∃ P0, Y * e2 = P0 := ⟨_, rfl⟩
              rw [hP0] at hmod
              obtain ⟨D1, hD1⟩ : ∃ D1, q2 * 4294967296 % 18446744073709551616 = D1 := ⟨_, rfl⟩
              obtain ⟨D3, hD3⟩ : ∃ D3, U * 4294967296 % 18446744073709551616 = D3 := ⟨_, rfl⟩
              obtain ⟨D4, hD4⟩ : ∃ D4, (D3 + m0) % 18446744073709551616 = D4 := ⟨_, rfl⟩
              obtain ⟨D5, hD5⟩ : ∃ D5, P0 % 18446744073709551616 = D5 := ⟨_, rfl⟩
              have d1 : IntKind.u64.wrap ((q2 : Int) * 4294967296) = (D1 : Int) := by rw [IntKind.wrap_u64]; omega
              have d2 : IntKind.u64.wrap ((D1 : Int) + e2) = (R1 : Int) := by rw [IntKind.wrap_u64]; omega
              have d3 : IntKind.u64.wrap ((U : Int) * 4294967296) = (D3 : Int) := by rw [IntKind.wrap_u64]; omega
              have d4 : IntKind.u64.wrap ((D3 : Int) + m0) = (D4 : Int) := by rw [IntKind.wrap_u64]; omega
              have d5 : IntKind.u64.wrap ((e2 : Int) * Y) = (D5 : Int) := by rw [wmul, Nat.mul_comm, hP0, hD5]
              have d6 : IntKind.u64.wrap ((D4 : Int) - D5) = (Z : Int) := by rw [IntKind.wrap_u64]; omega
              have d7 : (Z : Int) / 2 ^ s = (R2 : Int) := by rw [← hd2]; simp
              clear hQ hU3 hd1 hd2 hmod hZ hZY hP0 hD1 hD3 hD4 hD5 ha1 ha2 hb2 hm12 hm02 hu2 hYab hR1lt
              go_wp2_with fail
              go_ret2
              exact ⟨rfl, Touch.refl _ _⟩
          · have cA : ¬ (e : Int) ≥ 4294967296 := by omega
            obtain ⟨Pe, hP⟩ : ∃ P, e * b = P := ⟨_, rfl⟩
            obtain ⟨Re, hR⟩ : ∃ R, 4294967296 * f = R := ⟨_, rfl⟩
            obtain ⟨Se, hS⟩ : ∃ S, Re + m0 = S := ⟨_, rfl⟩
            have hPlt : Pe < 18446744073709551616 := by rw [← hP]; exact Nat.lt_of_le_of_lt (Nat.mul_le_mul (show e ≤ 4294967295 by omega) (show b ≤ 4294967295 by omega)) (by decide)
            have kP : IntKind.u64.wrap ((e : Int) * b) = (Pe : Int) := by rw [wmul, hP, Nat.mod_eq_of_lt hPlt]
            have kR : IntKind.u64.wrap (4294967296 * (f : Int)) = (Re : Int) := by rw [IntKind.wrap_u64]; omega
            have kS : IntKind.u64.wrap ((Re : Int) + m0) = (Se : Int) := by rw [IntKind.wrap_u64]; omega
            by_cases hB : 4294967296 * f + m0 < e * b
            · have cB : (Pe : Int) > Se := by omega
              clear hPlt hS hR hP
              obtain ⟨e2, hq2⟩ : ∃ e2, e - 1 = e2 := ⟨_, rfl⟩
              obtain ⟨f2, hr2⟩ : ∃ f2, f + a = f2 := ⟨_, rfl⟩
              have hq1 := (guess_more hG hm02 HST.out.1 (.inr hB)).1
              have kq : IntKind.u64.wrap ((e : Int) - 1) = (e2 : Int) := by rw [IntKind.wrap_u64]; omega
              have kr : IntKind.u64.wrap ((f : Int) + a) = (f2 : Int) := by rw [IntKind.wrap_u64]; omega
              by_cases hC : f + a < 4294967296
              · have cC : ¬ (f2 : Int) ≥ 4294967296 := by omega
                have hG2 := guess_on hG hm02 HST.out.1 (.inr hB) hC
                rw [hq2, hr2] at hG2
                have HG2 := Lib.hid (And.intro hG2 (show e2 < e by omega))
                clear hG hG2 hq1 hC hq2 hr2 hlow htop ha1 ha2 hb2 hm12 hm02 hu2 hYab hR1lt
                go_wp2_with fail
                refine ⟨⟨e2, f2, rfl, rfl, HG2.out.1, by first | trivial | rfl⟩, ?_⟩
                have h2 := HG2.out.2
                simp only [intOf]
                omega
              · have cC : (f2 : Int) ≥ 4294967296 := by omega
                have hQ := guess_break hG (show 0 < a by omega) hb2 hm02 HST.out.1 (.inr hB) hC
                rw [hq2] at hQ
                clear hG hq1 hC hq2 hr2 hlow htop
                rw [← hYab] at hQ
                obtain ⟨hU3, hd1, hd2⟩ := HST.out
                rw [hQ] at hd1
                have hmod := Nat.div_add_mod (U * 4294967296 + m0) Y
                rw [hQ] at hmod
                obtain ⟨Z, hZ⟩ : ∃ Z, (U * 4294967296 + m0) % Y = Z := ⟨_, rfl⟩
                have hZY : Z < Y := by rw [← hZ]; exact Nat.mod_lt _ (by omega)
                rw [hZ] at hmod hd2
                obtain ⟨P0, hP0⟩ : ∃ P0, Y * e2 = P0 := ⟨_, rfl⟩
                rw [hP0] at hmod
                obtain ⟨D1, hD1⟩ : ∃ D1, q2 * 4294967296 % 18446744073709551616 = D1 := ⟨_, rfl⟩
                obtain ⟨D3, hD3⟩ : ∃ D3, U * 4294967296 % 18446744073709551616 = D3 := ⟨_, rfl⟩
                obtain ⟨D4, hD4⟩ : ∃ D4, (D3 + m0) % 18446744073709551616 = D4 := ⟨_, rfl⟩
                obtain ⟨D5, hD5⟩ : ∃ D5, P0 % 18446744073709551616 = D5 := ⟨_, rfl⟩
                have d1 : IntKind.u64.wrap ((q2 : Int) * 4294967296) = (D1 : Int) := by rw [IntKind.wrap_u64]; omega
                have d2 : IntKind.u64.wrap ((D1 : Int) + e2) = (R1 : Int) := by rw [IntKind.wrap_u64]; omega
                have d3 : IntKind.u64.wrap ((U : Int) * 4294967296) = (D3 : Int) := by rw [IntKind.wrap_u64]; omega
                have d4 : IntKind.u64.wrap ((D3 : Int) + m0) = (D4 : Int) := by rw [IntKind.wrap_u64]; omega
                have d5 : IntKind.u64.wrap ((e2 : Int) * Y) = (D5 : Int) := by rw [wmul, Nat.mul_comm, hP0, hD5]
                have d6 : IntKind.u64.wrap ((D4 : Int) - D5) = (Z : Int) := by rw [IntKind.wrap_u64]; omega
                have d7 : (Z : Int) / 2 ^ s = (R2 : Int) := by rw [← hd2]; simp
                clear hQ hU3 hd1 hd2 hmod hZ hZY hP0 hD1 hD3 hD4 hD5 ha1 ha2 hb2 hm12 hm02 hu2 hYab hR1lt
                go_wp2_with fail
                go_ret2
                exact ⟨rfl, Touch.refl _ _⟩
            · have cB : ¬ (Pe : Int) > Se := by omega
              have hQ := guess_right hG (show 0 < a by omega) (by omega)
              clear hG hlow htop hPlt hS hR hP hA hB
              rw [← hYab] at hQ
              obtain ⟨hU3, hd1, hd2⟩ := HST.out
              rw [hQ] at hd1
              have hmod := Nat.div_add_mod (U * 4294967296 + m0) Y
              rw [hQ] at hmod
              obtain ⟨Z, hZ⟩ : ∃ Z, (U * 4294967296 + m0) % Y = Z := ⟨_, rfl⟩
              have hZY : Z < Y := by rw [← hZ]; exact Nat.mod_lt _ (by omega)
              rw [hZ] at hmod hd2
              obtain ⟨P0, hP0⟩ : ∃ P0, Y * e = P0 := ⟨_, rfl⟩
              rw [hP0] at hmod
              obtain ⟨D1, hD1⟩ : ∃ D1, q2 * 4294967296 % 18446744073709551616 = D1 := ⟨_, rfl⟩
              obtain ⟨D3, hD3⟩ : ∃ D3, U * 4294967296 % 18446744073709551616 = D3 := ⟨_, rfl⟩
              obtain ⟨D4, hD4⟩ : ∃ D4, (D3 + m0) % 18446744073709551616 = D4 := ⟨_, rfl⟩
              obtain ⟨D5, hD5⟩ : ∃ D5, P0 % 18446744073709551616 = D5 := ⟨_, rfl⟩
              have d1 : IntKind.u64.wrap ((q2 : Int) * 4294967296) = (D1 : Int) := by rw [IntKind.wrap_u64]; omega
              have d2 : IntKind.u64.wrap ((D1 : Int) + e) = (R1 : Int) := by rw [IntKind.wrap_u64]; omega
              have d3 : IntKind.u64.wrap ((U : Int) * 4294967296) = (D3 : Int) := by rw [IntKind.wrap_u64]; omega
              have d4 : IntKind.u64.wrap ((D3 : Int) + m0) = (D4 : Int) := by rw [IntKind.wrap_u64]; omega
              have d5 : IntKind.u64.wrap ((e : Int) * Y) = (D5 : Int) := by rw [wmul, Nat.mul_comm, hP0, hD5]
              have d6 : IntKind.u64.wrap ((D4 : Int) - D5) = (Z : Int) := by rw [IntKind.wrap_u64]; omega
              have d7 : (Z : Int) / 2 ^ s = (R2 : Int) := by rw [← hd2]; simp
              clear hQ hU3 hd1 hd2 hmod hZ hZY hP0 hD1 hD3 hD4 hD5 ha1 ha2 hb2 hm12 hm02 hu2 hYab hR1lt
              go_wp2_with fail
              go_ret2
              exact ⟨rfl, Touch.refl _ _⟩
    · have cA : ¬ (q : Int) ≥ 4294967296 := by omega
      obtain ⟨Pq, hP⟩ : ∃ P, q * b = P := ⟨_, rfl⟩
      obtain ⟨Rq, hR⟩ : ∃ R, 4294967296 * r = R := ⟨_, rfl⟩
      obtain ⟨Sq, hS⟩ : ∃ S, Rq + m1 = S := ⟨_, rfl⟩
      have hPlt : Pq < 18446744073709551616 := by rw [← hP]; exact Nat.lt_of_le_of_lt (Nat.mul_le_mul (show q ≤ 4294967295 by omega) (show b ≤ 4294967295 by omega)) (by decide)
      have kP : IntKind.u64.wrap ((q : Int) * b) = (Pq : Int) := by rw [wmul, hP, Nat.mod_eq_of_lt hPlt]
      have kR : IntKind.u64.wrap (4294967296 * (r : Int)) = (Rq : Int) := by rw [IntKind.wrap_u64]; omega
      have kS : IntKind.u64.wrap ((Rq : Int) + m1) = (Sq : Int) := by rw [IntKind.wrap_u64]; omega
      by_cases hB : 4294967296 * r + m1 < q * b
      · have cB : (Pq : Int) > Sq := by omega
        clear hPlt hS hR hP
        obtain ⟨q2, hq2⟩ : ∃ q2, q - 1 = q2 := ⟨_, rfl⟩
        obtain ⟨r2, hr2⟩ : ∃ r2, r + a = r2 := ⟨_, rfl⟩
        have hq1 := (guess_more hG hm12 hu2 (.inr hB)).1
        have kq : IntKind.u64.wrap ((q : Int) - 1) = (q2 : Int) := by rw [IntKind.wrap_u64]; omega
        have kr : IntKind.u64.wrap ((r : Int) + a) = (r2 : Int) := by rw [IntKind.wrap_u64]; omega
        by_cases hC : r + a < 4294967296
        · have cC : ¬ (r2 : Int) ≥ 4294967296 := by omega
          have hG2 := guess_on hG hm12 hu2 (.inr hB) hC
          rw [hq2, hr2] at hG2
          have HG2 := Lib.hid (And.intro hG2 (show q2 < q by omega))
          clear hG hG2 hq1 hC hq2 hr2 hlow htop ha1 ha2 hb2 hm12 hm02 hu2 hYab hR1lt
          go_wp2_with fail
          refine ⟨⟨q2, r2, rfl, rfl, HG2.out.1, by first | trivial | rfl⟩, ?_⟩
          have h2 := HG2.out.2
          simp only [intOf]
          omega
        · have cC : (r2 : Int) ≥ 4294967296 := by omega
          have hQ := guess_break hG (show 0 < a by omega) hb2 hm12 hu2 (.inr hB) hC
          rw [hq2] at hQ
          clear hG hq1 hC hq2 hr2 hlow htop
          rw [← hYab] at hQ
          obtain ⟨hst1, hst2, hst3⟩ := HS2.out
          have hmod := Nat.div_add_mod (u * 4294967296 + m1) Y
          rw [hQ] at hmod hst2
          obtain ⟨U, hU⟩ : ∃ U, (u * 4294967296 + m1) % Y = U := ⟨_, rfl⟩
          rw [hU] at hmod hst1 hst2 hst3
          have hU2 : U < a * 4294967296 + b := by rw [← hYab]; exact hst1
          obtain ⟨P1, hP1⟩ : ∃ P1, Y * q2 = P1 := ⟨_, rfl⟩
          rw [hP1] at hmod
          obtain ⟨C1, hC1⟩ : ∃ C1, u * 4294967296 % 18446744073709551616 = C1 := ⟨_, rfl⟩
          obtain ⟨C2, hC2⟩ : ∃ C2, (C1 + m1) % 18446744073709551616 = C2 := ⟨_, rfl⟩
          obtain ⟨C3, hC3⟩ : ∃ C3, P1 % 18446744073709551616 = C3 := ⟨_, rfl⟩
          have k1 : IntKind.u64.wrap ((u : Int) * 4294967296) = (C1 : Int) := by rw [IntKind.wrap_u64]; omega
          have k2 : IntKind.u64.wrap ((C1 : Int) + m1) = (C2 : Int) := by rw [IntKind.wrap_u64]; omega
          have k3 : IntKind.u64.wrap ((q2 : Int) * Y) = (C3 : Int) := by rw [wmul, Nat.mul_comm, hP1, hC3]
          have k4 : IntKind.u64.wrap ((C2 : Int) - C3) = (U : Int) := by rw [IntKind.wrap_u64]; omega
          obtain ⟨q0, hq0⟩ : ∃ q0, U / a = q0 := ⟨_, rfl⟩
          obtain ⟨r0, hr0⟩ : ∃ r0, U % a = r0 := ⟨_, rfl⟩
          have hgs := guess_start (m := m0) ha1 ha2 hb2 hm02 hU2
          rw [hq0, hr0] at hgs
          have s1 : (U : Int).tdiv a = (q0 : Int) := by rw [← hq0]; exact Int.ofNat_tdiv U a
          have hq0t := hgs.top
          have s2 : IntKind.u64.wrap (q0 : Int) = (q0 : Int) := by rw [IntKind.wrap_u64]; omega
          obtain ⟨P2, hP2⟩ : ∃ P2, q0 * a = P2 := ⟨_, rfl⟩
          have hsum := hgs.sum
          rw [hP2] at hsum
          have s3 : IntKind.u64.wrap ((q0 : Int) * a) = (P2 : Int) := by rw [wmul, hP2, Nat.mod_eq_of_lt (by omega)]
          have s4 : IntKind.u64.wrap ((U : Int) - P2) = (r0 : Int) := by rw [IntKind.wrap_u64]; omega
          have HGU := Lib.hid hgs
          have HST := Lib.hid (And.intro hU2 (And.intro hst2 hst3))
          clear hQ hst1 hst2 hst3 hmod hU hU2 hP1 hC1 hC2 hC3 hq0 hr0 hgs hq0t hP2 hsum ha1 ha2 hb2 hm12 hm02 hu2 hYab hR1lt
          go_wp2_with fail
          go_loopw [18, 16] (fun qv rv wr => ∃ e f : Nat, qv = .int .u64 e ∧ rv = .int .u64 f ∧ Guess U a b m0 e f ∧ w = wr) (fun qv _ _ => (intOf qv).toNat)
          case atStart => exact ⟨_, _, rfl, rfl, HGU.out, rfl⟩
          case round =>
            obtain ⟨e, f, rfl, rfl, hG, rfl⟩ := hrel
            obtain ⟨ha1, ha2, hb2, hm12, hm02, hu2, hYab, hR1lt⟩ := HB.out
            have hlow := hG.low
            have htop := hG.top
            by_cases hA : 4294967296 ≤ e
            · have cA : (e : Int) ≥ 4294967296 := by omega
              obtain ⟨e2, hq2⟩ : ∃ e2, e - 1 = e2 := ⟨_, rfl⟩
              obtain ⟨f2, hr2⟩ : ∃ f2, f + a = f2 := ⟨_, rfl⟩
              have hq1 := (guess_more hG hm02 HST.out.1 (.inl hA)).1
              have kq : IntKind.u64.wrap ((e : Int) - 1) = (e2 : Int) := by rw [IntKind.wrap_u64]; omega
              have kr : IntKind.u64.wrap ((f : Int) + a) = (f2 : Int) := by rw [IntKind.wrap_u64]; omega
              by_cases hC : f + a < 4294967296
              · have cC : ¬ (f2 : Int) ≥ 4294967296 := by omega
                have hG2 := guess_on hG hm02 HST.out.1 (.inl hA) hC
                rw [hq2, hr2] at hG2
                have HG2 := Lib.hid (And.intro hG2 (show e2 < e by omega))
                clear hG hG2 hq1 hC hq2 hr2 hlow htop ha1 ha2 hb2 hm12 hm02 hu2 hYab hR1lt
                go_wp2_with fail
                refine ⟨⟨e2, f2, rfl, rfl, HG2.out.1, by first | trivial | rfl⟩, ?_⟩
                have h2 := HG2.out.2
                simp only [intOf]
                omega
              · have cC : (f2 : Int) ≥ 4294967296 := by omega
                have hQ := guess_break hG (show 0 < a by omega) hb2 hm02 HST.out.1 (.inl hA) hC
                rw [hq2] at hQ
                clear hG hq1 hC hq2 hr2 hlow htop
                rw [← hYab] at hQ
                obtain ⟨hU3, hd1, hd2⟩ := HST.out
                rw [hQ] at hd1
                have hmod := Nat.div_add_mod (U * 4294967296 + m0) Y
                rw [hQ] at hmod
                obtain ⟨Z, hZ⟩ : ∃ Z, (U * 4294967296 + m0) % Y = Z := ⟨_, rfl⟩
                have hZY : Z < Y := by rw [← hZ]; exact Nat.mod_lt _ (by omega)
                rw [hZ] at hmod hd2
                obtain ⟨P0, hP0⟩ : ∃ P0, Y * e2 = P0 := ⟨_, rfl⟩
                rw [hP0] at hmod
                obtain ⟨D1, hD1⟩ : ∃ D1, q2 * 4294967296 % 18446744073709551616 = D1 := ⟨_, rfl⟩
                obtain ⟨D3, hD3⟩ : ∃ D3, U * 4294967296 % 18446744073709551616 = D3 := ⟨_, rfl⟩
                obtain ⟨D4, hD4⟩ : ∃ D4, (D3 + m0) % 18446744073709551616 = D4 := ⟨_, rfl⟩
                obtain ⟨D5, hD5⟩ : ∃ D5, P0 % 18446744073709551616 = D5 := ⟨_, rfl⟩
                have d1 : IntKind.u64.wrap ((q2 : Int) * 4294967296) = (D1 : Int) := by rw [IntKind.wrap_u64]; omega
                have d2 : IntKind.u64.wrap ((D1 : Int) + e2) = (R1 : Int) := by rw [IntKind.wrap_u64]; omega
                have d3 : IntKind.u64.wrap ((U : Int) * 4294967296) = (D3 : Int) := by rw [IntKind.wrap_u64]; omega
                have d4 : IntKind.u64.wrap ((D3 : Int) + m0) = (D4 : Int) := by rw [IntKind.wrap_u64]; omega
                have d5 : IntKind.u64.wrap ((e2 : Int) * Y) = (D5 : Int) := by rw [wmul, Nat.mul_comm, hP0, hD5]
                have d6 : IntKind.u64.wrap ((D4 : Int) - D5) = (Z : Int) := by rw [IntKind.wrap_u64]; omega
                have d7 : (Z : Int) / 2 ^ s = (R2 : Int) := by rw [← hd2]; simp
                clear hQ hU3 hd1 hd2 hmod hZ hZY hP0 hD1 hD3 hD4 hD5 ha1 ha2 hb2 hm12 hm02 hu2 hYab hR1lt
                go_wp2_with fail
                go_ret2
                exact ⟨rfl, Touch.refl _ _⟩
            · have cA : ¬ (e : Int) ≥ 4294967296 := by omega
              obtain ⟨Pe, hP⟩ : ∃ P, e * b = P := ⟨_, rfl⟩
              obtain ⟨Re, hR⟩ : ∃ R, 4294967296 * f = R := ⟨_, rfl⟩
              obtain ⟨Se, hS⟩ : ∃ S, Re + m0 = S := ⟨_, rfl⟩
              have hPlt : Pe < 18446744073709551616 := by rw [← hP]; exact Nat.lt_of_le_of_lt (Nat.mul_le_mul (show e ≤ 4294967295 by omega) (show b ≤ 4294967295 by omega)) (by decide)
              have kP : IntKind.u64.wrap ((e : Int) * b) = (Pe : Int) := by rw [wmul, hP, Nat.mod_eq_of_lt hPlt]
              have kR : IntKind.u64.wrap (4294967296 * (f : Int)) = (Re : Int) := by rw [IntKind.wrap_u64]; omega
              have kS : IntKind.u64.wrap ((Re : Int) + m0) = (Se : Int) := by rw [IntKind.wrap_u64]; omega
              by_cases hB : 4294967296 * f + m0 < e * b
              · have cB : (Pe : Int) > Se := by omega
                clear hPlt hS hR hP
                obtain ⟨e2, hq2⟩ : ∃ e2, e - 1 = e2 := ⟨_, rfl⟩
                obtain ⟨f2, hr2⟩ : ∃ f2, f + a = f2 := ⟨_, rfl⟩
                have hq1 := (guess_more hG hm02 HST.out.1 (.inr hB)).1
                have kq : IntKind.u64.wrap ((e : Int) - 1) = (e2 : Int) := by rw [IntKind.wrap_u64]; omega
                have kr : IntKind.u64.wrap ((f : Int) + a) = (f2 : Int) := by rw [IntKind.wrap_u64]; omega
                by_cases hC : f + a < 4294967296
                · have cC : ¬ (f2 : Int) ≥ 4294967296 := by omega
                  have hG2 := guess_on hG hm02 HST.out.1 (.inr hB) hC
                  rw [hq2, hr2] at hG2
                  have HG2 := Lib.hid (And.intro hG2 (show e2 < e by omega))
                  clear hG hG2 hq1 hC hq2 hr2 hlow htop ha1 ha2 hb2 hm12 hm02 hu2 hYab hR1lt
                  go_wp2_with fail
                  refine ⟨⟨e2, f2, rfl, rfl, HG2.out.1, by first | trivial | rfl⟩, ?_⟩
                  have h2 := HG2.out.2
                  simp only [intOf]
                  omega
                · have cC : (f2 : Int) ≥ 4294967296 := by omega
                  have hQ := guess_break hG (show 0 < a by omega) hb2 hm02 HST.out.1 (.inr hB) hC
                  rw [hq2] at hQ
                  clear hG hq1 hC hq2 hr2 hlow htop
                  rw [← hYab] at hQ
                  obtain ⟨hU3, hd1, hd2⟩ := HST.out
                  rw [hQ] at hd1
                  have hmod := Nat.div_add_mod (U * 4294967296 + m0) Y
                  rw [hQ] at hmod
                  obtain ⟨Z, hZ⟩ : ∃ Z, (U * 4294967296 + m0) % Y = Z := ⟨_, rfl⟩
                  have hZY : Z < Y := by rw [← hZ]; exact Nat.mod_lt _ (by omega)
                  rw [hZ] at hmod hd2
                  obtain ⟨P0, hP0⟩ : ∃ P0, Y * e2 = P0 := ⟨_, rfl⟩
                  rw [hP0] at hmod
                  obtain ⟨D1, hD1⟩ : ∃ D1, q2 * 4294967296 % 18446744073709551616 = D1 := ⟨_, rfl⟩
                  obtain ⟨D3, hD3⟩ : ∃ D3, U * 4294967296 % 18446744073709551616 = D3 := ⟨_, rfl⟩
                  obtain ⟨D4, hD4⟩ : ∃ D4, (D3 + m0) % 18446744073709551616 = D4 := ⟨_, rfl⟩
                  obtain ⟨D5, hD5⟩ : ∃ D5, P0 % 18446744073709551616 = D5 := ⟨_, rfl⟩
                  have d1 : IntKind.u64.wrap ((q2 : Int) * 4294967296) = (D1 : Int) := by rw [IntKind.wrap_u64]; omega
                  have d2 : IntKind.u64.wrap ((D1 : Int) + e2) = (R1 : Int) := by rw [IntKind.wrap_u64]; omega
                  have d3 : IntKind.u64.wrap ((U : Int) * 4294967296) = (D3 : Int) := by rw [IntKind.wrap_u64]; omega
                  have d4 : IntKind.u64.wrap ((D3 : Int) + m0) = (D4 : Int) := by rw [IntKind.wrap_u64]; omega
                  have d5 : IntKind.u64.wrap ((e2 : Int) * Y) = (D5 : Int) := by rw [wmul, Nat.mul_comm, hP0, hD5]
                  have d6 : IntKind.u64.wrap ((D4 : Int) - D5) = (Z : Int) := by rw [IntKind.wrap_u64]; omega
                  have d7 : (Z : Int) / 2 ^ s = (R2 : Int) := by rw [← hd2]; simp
                  clear hQ hU3 hd1 hd2 hmod hZ hZY hP0 hD1 hD3 hD4 hD5 ha1 ha2 hb2 hm12 hm02 hu2 hYab hR1lt
                  go_wp2_with fail
                  go_ret2
                  exact ⟨rfl, Touch.refl _ _⟩
              · have cB : ¬ (Pe : Int) > Se := by omega
                have hQ := guess_right hG (show 0 < a by omega) (by omega)
                clear hG hlow htop hPlt hS hR hP hA hB
                rw [← hYab] at hQ
                obtain ⟨hU3, hd1, hd2⟩ := HST.out
                rw [hQ] at hd1
                have hmod := Nat.div_add_mod (U * 4294967296 + m0) Y
                rw [hQ] at hmod
                obtain ⟨Z, hZ⟩ : ∃ Z, (U * 4294967296 + m0) % Y = Z := ⟨_, rfl⟩
                have hZY : Z < Y := by rw [← hZ]; exact Nat.mod_lt _ (by omega)
                rw [hZ] at hmod hd2
                obtain ⟨P0, hP0⟩ : ∃ P0, Y * e = P0 := ⟨_, rfl⟩
                rw [hP0] at hmod
                obtain ⟨D1, hD1⟩ : ∃ D1, q2 * 4294967296 % 18446744073709551616 = D1 := ⟨_, rfl⟩
                obtain ⟨D3, hD3⟩ : ∃ D3, U * 4294967296 % 18446744073709551616 = D3 := ⟨_, rfl⟩
                obtain ⟨D4, hD4⟩ : ∃ D4, (D3 + m0) % 18446744073709551616 = D4 := ⟨_, rfl⟩
                obtain ⟨D5, hD5⟩ : ∃ D5, P0 % 18446744073709551616 = D5 := ⟨_, rfl⟩
                have d1 : IntKind.u64.wrap ((q2 : Int) * 4294967296) = (D1 : Int) := by rw [IntKind.wrap_u64]; omega
                have d2 : IntKind.u64.wrap ((D1 : Int) + e) = (R1 : Int) := by rw [IntKind.wrap_u64]; omega
                have d3 : IntKind.u64.wrap ((U : Int) * 4294967296) = (D3 : Int) := by rw [IntKind.wrap_u64]; omega
                have d4 : IntKind.u64.wrap ((D3 : Int) + m0) = (D4 : Int) := by rw [IntKind.wrap_u64]; omega
                have d5 : IntKind.u64.wrap ((e : Int) * Y) = (D5 : Int) := by rw [wmul, Nat.mul_comm, hP0, hD5]
                have d6 : IntKind.u64.wrap ((D4 : Int) - D5) = (Z : Int) := by rw [IntKind.wrap_u64]; omega
                have d7 : (Z : Int) / 2 ^ s = (R2 : Int) := by rw [← hd2]; simp
                clear hQ hU3 hd1 hd2 hmod hZ hZY hP0 hD1 hD3 hD4 hD5 ha1 ha2 hb2 hm12 hm02 hu2 hYab hR1lt
                go_wp2_with fail
                go_ret2
                exact ⟨rfl, Touch.refl _ _⟩
      · have cB : ¬ (Pq : Int) > Sq := by omega
        have hQ := guess_right hG (show 0 < a by omega) (by omega)
        clear hG hlow htop hPlt hS hR hP hA hB
        rw [← hYab] at hQ
        obtain ⟨hst1, hst2, hst3⟩ := HS2.out
        have hmod := Nat.div_add_mod (u * 4294967296 + m1) Y
        rw [hQ] at hmod hst2
        obtain ⟨U, hU⟩ : ∃ U, (u * 4294967296 + m1) % Y = U := ⟨_, rfl⟩
        rw [hU] at hmod hst1 hst2 hst3
        have hU2 : U < a * 4294967296 + b := by rw [← hYab]; exact hst1
        obtain ⟨P1, hP1⟩ : ∃ P1, Y * q = P1 := ⟨_, rfl⟩
        rw [hP1] at hmod
        obtain ⟨C1, hC1⟩ : ∃ C1, u * 4294967296 % 18446744073709551616 = C1 := ⟨_, rfl⟩
        obtain ⟨C2, hC2⟩ : ∃ C2, (C1 + m1) % 18446744073709551616 = C2 := ⟨_, rfl⟩
        obtain ⟨C3, hC3⟩ : ∃ C3, P1 % 18446744073709551616 = C3 := ⟨_, rfl⟩
        have k1 : IntKind.u64.wrap ((u : Int) * 4294967296) = (C1 : Int) := by rw [IntKind.wrap_u64]; omega
        have k2 : IntKind.u64.wrap ((C1 : Int) + m1) = (C2 : Int) := by rw [IntKind.wrap_u64]; omega
        have k3 : IntKind.u64.wrap ((q : Int) * Y) = (C3 : Int) := by rw [wmul, Nat.mul_comm, hP1, hC3]
        have k4 : IntKind.u64.wrap ((C2 : Int) - C3) = (U : Int) := by rw [IntKind.wrap_u64]; omega
        obtain ⟨q0, hq0⟩ : ∃ q0, U / a = q0 := ⟨_, rfl⟩
        obtain ⟨r0, hr0⟩ : ∃ r0, U % a = r0 := ⟨_, rfl⟩
        have hgs := guess_start (m := m0) ha1 ha2 hb2 hm02 hU2
        rw [hq0, hr0] at hgs
        have s1 : (U : Int).tdiv a = (q0 : Int) := by rw [← hq0]; exact Int.ofNat_tdiv U a
        have hq0t := hgs.top
        have s2 : IntKind.u64.wrap (q0 : Int) = (q0 : Int) := by rw [IntKind.wrap_u64]; omega
        obtain ⟨P2, hP2⟩ : ∃ P2, q0 * a = P2 := ⟨_, rfl⟩
        have hsum := hgs.sum
        rw [hP2] at hsum
        have s3 : IntKind.u64.wrap ((q0 : Int) * a) = (P2 : Int) := by rw [wmul, hP2, Nat.mod_eq_of_lt (by omega)]
        have s4 : IntKind.u64.wrap ((U : Int) - P2) = (r0 : Int) := by rw [IntKind.wrap_u64]; omega
        have HGU := Lib.hid hgs
        have HST := Lib.hid (And.intro hU2 (And.intro hst2 hst3))
        clear hQ hst1 hst2 hst3 hmod hU hU2 hP1 hC1 hC2 hC3 hq0 hr0 hgs hq0t hP2 hsum ha1 ha2 hb2 hm12 hm02 hu2 hYab hR1lt
        go_wp2_with fail
        go_loopw [18, 16] (fun qv rv wr => ∃ e f : Nat, qv = .int .u64 e ∧ rv = .int .u64 f ∧ Guess U a b m0 e f ∧ w = wr) (fun qv _ _ => (intOf qv).toNat)
        case atStart => exact ⟨_, _, rfl, rfl, HGU.out, rfl⟩
        case round =>
          obtain ⟨e, f, rfl, rfl, hG, rfl⟩ := hrel
          obtain ⟨ha1, ha2, hb2, hm12, hm02, hu2, hYab, hR1lt⟩ := HB.out
          have hlow := hG.low
          have htop := hG.top
          by_cases hA : 4294967296 ≤ e
          · have cA : (e : Int) ≥ 4294967296 := by omega
            obtain ⟨e2, hq2⟩ : ∃ e2, e - 1 = e2 := ⟨_, rfl⟩
            obtain ⟨f2, hr2⟩ : ∃ f2, f + a = f2 := ⟨_, rfl⟩
            have hq1 := (guess_more hG hm02 HST.out.1 (.inl hA)).1
            have kq : IntKind.u64.wrap ((e : Int) - 1) = (e2 : Int) := by rw [IntKind.wrap_u64]; omega
            have kr : IntKind.u64.wrap ((f : Int) + a) = (f2 : Int) := by rw [IntKind.wrap_u64]; omega
            by_cases hC : f + a < 4294967296
            · have cC : ¬ (f2 : Int) ≥ 4294967296 := by omega
              have hG2 := guess_on hG hm02 HST.out.1 (.inl hA) hC
              rw [hq2, hr2] at hG2
              have HG2 := Lib.hid (And.intro hG2 (show e2 < e by omega))
              clear hG hG2 hq1 hC hq2 hr2 hlow htop ha1 ha2 hb2 hm12 hm02 hu2 hYab hR1lt
              go_wp2_with fail
              refine ⟨⟨e2, f2, rfl, rfl, HG2.out.1, by first | trivial | rfl⟩, ?_⟩
              have h2 := HG2.out.2
              simp only [intOf]
              omega
            · have cC : (f2 : Int) ≥ 4294967296 := by omega
              have hQ := guess_break hG (show 0 < a by omega) hb2 hm02 HST.out.1 (.inl hA) hC
              rw [hq2] at hQ
              clear hG hq1 hC hq2 hr2 hlow htop
              rw [← hYab] at hQ
              obtain ⟨hU3, hd1, hd2⟩ := HST.out
              rw [hQ] at hd1
              have hmod := Nat.div_add_mod (U * 4294967296 + m0) Y
              rw [hQ] at hmod
              obtain ⟨Z, hZ⟩ : ∃ Z, (U * 4294967296 + m0) % Y = Z := ⟨_, rfl⟩
              have hZY : Z < Y := by rw [← hZ]; exact Nat.mod_lt _ (by omega)
              rw [hZ] at hmod hd2
              obtain ⟨P0, hP0⟩ : ∃ P0, Y * e2 = P0 := ⟨_, rfl⟩
              rw [hP0] at hmod
              obtain ⟨D1, hD1⟩ : ∃ D1, q * 4294967296 % 18446744073709551616 = D1 := ⟨_, rfl⟩
              obtain ⟨D3, hD3⟩ : ∃ D3, U * 4294967296 % 18446744073709551616 = D3 := ⟨_, rfl⟩
              obtain ⟨D4, hD4⟩ : ∃ D4, (D3 + m0) % 18446744073709551616 = D4 := ⟨_, rfl⟩
              obtain ⟨D5, hD5⟩ : ∃ D5, P0 % 18446744073709551616 = D5 := ⟨_, rfl⟩
              have d1 : IntKind.u64.wrap ((q : Int) * 4294967296) = (D1 : Int) := by rw [IntKind.wrap_u64]; omega
              have d2 : IntKind.u64.wrap ((D1 : Int) + e2) = (R1 : Int) := by rw [IntKind.wrap_u64]; omega
              have d3 : IntKind.u64.wrap ((U : Int) * 4294967296) = (D3 : Int) := by rw [IntKind.wrap_u64]; omega
              have d4 : IntKind.u64.wrap ((D3 : Int) + m0) = (D4 : Int) := by rw [IntKind.wrap_u64]; omega
              have d5 : IntKind.u64.wrap ((e2 : Int) * Y) = (D5 : Int) := by rw [wmul, Nat.mul_comm, hP0, hD5]
              have d6 : IntKind.u64.wrap ((D4 : Int) - D5) = (Z : Int) := by rw [IntKind.wrap_u64]; omega
              have d7 : (Z : Int) / 2 ^ s = (R2 : Int) := by rw [← hd2]; simp
              clear hQ hU3 hd1 hd2 hmod hZ hZY hP0 hD1 hD3 hD4 hD5 ha1 ha2 hb2 hm12 hm02 hu2 hYab hR1lt
              go_wp2_with fail
              go_ret2
              exact ⟨rfl, Touch.refl _ _⟩
          · have cA : ¬ (e : Int) ≥ 4294967296 := by omega
            obtain ⟨Pe, hP⟩ : ∃ P, e * b = P := ⟨_, rfl⟩
            obtain ⟨Re, hR⟩ : ∃ R, 4294967296 * f = R := ⟨_, rfl⟩
            obtain ⟨Se, hS⟩ : ∃ S, Re + m0 = S := ⟨_, rfl⟩
            have hPlt : Pe < 18446744073709551616 := by rw [← hP]; exact Nat.lt_of_le_of_lt (Nat.mul_le_mul (show e ≤ 4294967295 by omega) (show b ≤ 4294967295 by omega)) (by decide)
            have kP : IntKind.u64.wrap ((e : Int) * b) = (Pe : Int) := by rw [wmul, hP, Nat.mod_eq_of_lt hPlt]
            have kR : IntKind.u64.wrap (4294967296 * (f : Int)) = (Re : Int) := by rw [IntKind.wrap_u64]; omega
            have kS : IntKind.u64.wrap ((Re : Int) + m0) = (Se : Int) := by rw [IntKind.wrap_u64]; omega
            by_cases hB : 4294967296 * f + m0 < e * b
            · have cB : (Pe : Int) > Se := by omega
              clear hPlt hS hR hP
              obtain ⟨e2, hq2⟩ : ∃ e2, e - 1 = e2 := ⟨_, rfl⟩
              obtain ⟨f2, hr2⟩ : ∃ f2, f + a = f2 := ⟨_, rfl⟩
              have hq1 := (guess_more hG hm02 HST.out.1 (.inr hB)).1
              have kq : IntKind.u64.wrap ((e : Int) - 1) = (e2 : Int) := by rw [IntKind.wrap_u64]; omega
              have kr : IntKind.u64.wrap ((f : Int) + a) = (f2 : Int) := by rw [IntKind.wrap_u64]; omega
              by_cases hC : f + a < 4294967296
              · have cC : ¬ (f2 : Int) ≥ 4294967296 := by omega
                have hG2 := guess_on hG hm02 HST.out.1 (.inr hB) hC
                rw [hq2, hr2] at hG2
                have HG2 := Lib.hid (And.intro hG2 (show e2 < e by omega))
                clear hG hG2 hq1 hC hq2 hr2 hlow htop ha1 ha2 hb2 hm12 hm02 hu2 hYab hR1lt
                go_wp2_with fail
                refine ⟨⟨e2, f2, rfl, rfl, HG2.out.1, by first | trivial | rfl⟩, ?_⟩
                have h2 := HG2.out.2
                simp only [intOf]
                omega
              · have cC : (f2 : Int) ≥ 4294967296 := by omega
                have hQ := guess_break hG (show 0 < a by omega) hb2 hm02 HST.out.1 (.inr hB) hC
                rw [hq2] at hQ
                clear hG hq1 hC hq2 hr2 hlow htop
                rw [← hYab] at hQ
                obtain ⟨hU3, hd1, hd2⟩ := HST.out
                rw [hQ] at hd1
                have hmod := Nat.div_add_mod (U * 4294967296 + m0) Y
                rw [hQ] at hmod
                obtain ⟨Z, hZ⟩ : ∃ Z, (U * 4294967296 + m0) % Y = Z := ⟨_, rfl⟩
                have hZY : Z < Y := by rw [← hZ]; exact Nat.mod_lt _ (by omega)
                rw [hZ] at hmod hd2
                obtain ⟨P0, hP0⟩ : ∃ P0, Y * e2 = P0 := ⟨_, rfl⟩
                rw [hP0] at hmod
                obtain ⟨D1, hD1⟩ : ∃ D1, q * 4294967296 % 18446744073709551616 = D1 := ⟨_, rfl⟩
                obtain ⟨D3, hD3⟩ : ∃ D3, U * 4294967296 % 18446744073709551616 = D3 := ⟨_, rfl⟩
                obtain ⟨D4, hD4⟩ : ∃ D4, (D3 + m0) % 18446744073709551616 = D4 := ⟨_, rfl⟩
                obtain ⟨D5, hD5⟩ : ∃ D5, P0 % 18446744073709551616 = D5 := ⟨_, rfl⟩
                have d1 : IntKind.u64.wrap ((q : Int) * 4294967296) = (D1 : Int) := by rw [IntKind.wrap_u64]; omega
                have d2 : IntKind.u64.wrap ((D1 : Int) + e2) = (R1 : Int) := by rw [IntKind.wrap_u64]; omega
                have d3 : IntKind.u64.wrap ((U : Int) * 4294967296) = (D3 : Int) := by rw [IntKind.wrap_u64]; omega
                have d4 : IntKind.u64.wrap ((D3 : Int) + m0) = (D4 : Int) := by rw [IntKind.wrap_u64]; omega
                have d5 : IntKind.u64.wrap ((e2 : Int) * Y) = (D5 : Int) := by rw [wmul, Nat.mul_comm, hP0, hD5]
                have d6 : IntKind.u64.wrap ((D4 : Int) - D5) = (Z : Int) := by rw [IntKind.wrap_u64]; omega
                have d7 : (Z : Int) / 2 ^ s = (R2 : Int) := by rw [← hd2]; simp
                clear hQ hU3 hd1 hd2 hmod hZ hZY hP0 hD1 hD3 hD4 hD5 ha1 ha2 hb2 hm12 hm02 hu2 hYab hR1lt
                go_wp2_with fail
                go_ret2
                exact ⟨rfl, Touch.refl _ _⟩
            · have cB : ¬ (Pe : Int) > Se := by omega
              have hQ := guess_right hG (show 0 < a by omega) (by omega)
              clear hG hlow htop hPlt hS hR hP hA hB
              rw [← hYab] at hQ
              obtain ⟨hU3, hd1, hd2⟩ := HST.out
              rw [hQ] at hd1
              have hmod := Nat.div_add_mod (U * 4294967296 + m0) Y
              rw [hQ] at hmod
              obtain ⟨Z, hZ⟩ : ∃ Z, (U * 4294967296 + m0) % Y = Z := ⟨_, rfl⟩
              have hZY : Z < Y := by rw [← hZ]; exact Nat.mod_lt _ (by omega)
              rw [hZ] at hmod hd2
              obtain ⟨P0, hP0⟩ : ∃ P0, Y * e = P0 := ⟨_, rfl⟩
              rw [hP0] at hmod
              obtain ⟨D1, hD1⟩ : ∃ D1, q * 4294967296 % 18446744073709551616 = D1 := ⟨_, rfl⟩
              obtain ⟨D3, hD3⟩ : ∃ D3, U * 4294967296 % 18446744073709551616 = D3 := ⟨_, rfl⟩
              obtain ⟨D4, hD4⟩ : ∃ D4, (D3 + m0) % 18446744073709551616 = D4 := ⟨_, rfl⟩
              obtain ⟨D5, hD5⟩ : ∃ D5, P0 % 18446744073709551616 = D5 := ⟨_, rfl⟩
              have d1 : IntKind.u64.wrap ((q : Int) * 4294967296) = (D1 : Int) := by rw [IntKind.wrap_u64]; omega
              have d2 : IntKind.u64.wrap ((D1 : Int) + e) = (R1 : Int) := by rw [IntKind.wrap_u64]; omega
              have d3 : IntKind.u64.wrap ((U : Int) * 4294967296) = (D3 : Int) := by rw [IntKind.wrap_u64]; omega
              have d4 : IntKind.u64.wrap ((D3 : Int) + m0) = (D4 : Int) := by rw [IntKind.wrap_u64]; omega
              have d5 : IntKind.u64.wrap ((e : Int) * Y) = (D5 : Int) := by rw [wmul, Nat.mul_comm, hP0, hD5]
              have d6 : IntKind.u64.wrap ((D4 : Int) - D5) = (Z : Int) := by rw [IntKind.wrap_u64]; omega
              have d7 : (Z : Int) / 2 ^ s = (R2 : Int) := by rw [← hd2]; simp
              clear hQ hU3 hd1 hd2 hmod hZ hZY hP0 hD1 hD3 hD4 hD5 ha1 ha2 hb2 hm12 hm02 hu2 hYab hR1lt
              go_wp2_with fail
              go_ret2
              exact ⟨rfl, Touch.refl _ _⟩
theorem div64_big (h l y : Nat) (hh : 0 < h) (hl : l < 18446744073709551616) (hy : y < 18446744073709551616) (hhy : h < y) (w : World) :
    Calls Tryz.prog 218 #[.int .u64 h, .int .u64 l, .int .u64 y] w fun e w' => e = .returned (.tuple #[.int .u64 ((h * 18446744073709551616 + l) / y : Nat), .int .u64 ((h * 18446744073709551616 + l) % y : Nat)]) ∧ Touch [] w w' := div64_bigR h l y _ _ hh hl hy hhy rfl rfl w
end Go.Proofs.YtkbchpaofmlhgaaGreatDoor

/- pair.UDiv and digit.Step of any pair. -/
namespace Go.Proofs.YtkbchpaofmlhgaaGreatDoor
open Go.RowKit

set_option maxHeartbeats 1000000 in
theorem div64_zero (n B : Nat) (hn : n < 18446744073709551616) (hB0 : 0 < B) (w : World) :
    Calls Tryz.prog 218 #[.int .u64 0, .int .u64 n, .int .u64 B] w fun e w' => e = .returned (.tuple #[.int .u64 (n / B : Nat), .int .u64 (n % B : Nat)]) ∧ Touch [] w w' := by
  have g1 : ¬ (B : Int) ≤ 0 := by omega
  have g2 : ((B : Int) == 0) = false := beq_eq_false_iff_ne.2 (by omega)
  have q1 : (n : Int).tdiv B = (n / B : Nat) := Int.ofNat_tdiv n B
  have q2 : (n : Int).tmod B = (n % B : Nat) := by rw [Int.ofNat_tmod]
  have wq : ∀ q : Nat, q < 18446744073709551616 → IntKind.u64.wrap (q : Int) = q := fun q h => by rw [IntKind.wrap_u64]; omega
  have w1 := wq (n / B) (Nat.lt_of_le_of_lt (Nat.div_le_self _ _) hn)
  have w2 := wq (n % B) (Nat.lt_of_le_of_lt (Nat.mod_le _ _) hn)
  obtain ⟨q, hq⟩ : ∃ q : Nat, n / B = q := ⟨_, rfl⟩
  obtain ⟨r, hr⟩ : ∃ r : Nat, n % B = r := ⟨_, rfl⟩
  rw [hq] at q1 w1 ⊢
  rw [hr] at q2 w2 ⊢
  clear wq hq hr
  go_enter Tryz.func218, Tryz.ntmps218
  go_wp2_with fail
  go_quiet (fail)
  go_wp2
  go_ret2
  exact ⟨rfl, ((Touch.refl _ _).drewN _)⟩
theorem div64_any (n B : Nat) (hn : n < 340282366920938463463374607431768211456) (hB : B < 18446744073709551616) (hlt : n / 18446744073709551616 < B) (w : World) :
    Calls Tryz.prog 218 #[.int .u64 (n / 18446744073709551616 : Nat), .int .u64 (n % 18446744073709551616 : Nat), .int .u64 B] w fun e w' => e = .returned (.tuple #[.int .u64 (n / B : Nat), .int .u64 (n % B : Nat)]) ∧ Touch [] w w' := by
  rcases Nat.eq_zero_or_pos (n / 18446744073709551616) with h0 | h0
  · have hs : n % 18446744073709551616 = n := by omega
    rw [h0, hs]
    exact div64_zero n B (by omega) (by omega) w
  · have e : n / 18446744073709551616 * 18446744073709551616 + n % 18446744073709551616 = n := by omega
    have h := div64_big (n / 18446744073709551616) (n % 18446744073709551616) B h0 (by omega) hB hlt w
    rw [e] at h
    exact h
theorem u64_pl (n : Nat) : IntKind.u64.wrap (pl n) = (n % 18446744073709551616 : Nat) := by unfold pl; rw [u64_cell _ (by omega)]
theorem u64_ph (n : Nat) (hn : n < 340282366920938463463374607431768211456) : IntKind.u64.wrap (ph n) = (n / 18446744073709551616 : Nat) := by unfold ph; rw [u64_cell _ (by omega)]; omega
set_option maxHeartbeats 1000000 in
theorem udivP (n B : Nat) (hn : n < 340282366920938463463374607431768211456) (hB0 : 0 < B) (hB : B < 18446744073709551616) (hlt : n / 18446744073709551616 < B) (w : World) :
    Calls Tryz.prog 129 #[.agg (two n), .int .i64 (cellOf B)] w fun e w' => e = .returned (.tuple #[.int .i64 (cellOf (n % B)), .int .i64 (cellOf (n / B)), .int .i64 0]) ∧ Touch [] w w' := by
  have hD := fun W => div64_any n B hn hB hlt W
  have hqlt : n / B < 18446744073709551616 := by rw [Nat.div_lt_iff_lt_mul hB0]; omega
  have hrlt : n % B < 18446744073709551616 := Nat.lt_trans (Nat.mod_lt _ hB0) hB
  have g2 : (cellOf B == 0) = false := beq_eq_false_iff_ne.2 (by unfold cellOf; split <;> omega)
  have e1 := u64_pl n
  have e0 := u64_ph n hn
  have e2 := u64_cell B hB
  have e3 := i64_cell (n / B) hqlt
  have e4 := i64_cell (n % B) hrlt
  have g3 : ¬ ((n / 18446744073709551616 : Nat) : Int) ≥ B := by omega
  unfold two
  obtain ⟨lo, h1⟩ : ∃ c : Int, pl n = c := ⟨_, rfl⟩
  obtain ⟨hi, h2⟩ : ∃ c : Int, ph n = c := ⟨_, rfl⟩
  obtain ⟨b, h3⟩ : ∃ c : Int, cellOf B = c := ⟨_, rfl⟩
  obtain ⟨q, hq⟩ : ∃ q : Nat, n / B = q := ⟨_, rfl⟩
  obtain ⟨r, hr⟩ : ∃ r : Nat, n % B = r := ⟨_, rfl⟩
  obtain ⟨H, hH⟩ : ∃ H : Nat, n / 18446744073709551616 = H := ⟨_, rfl⟩
  obtain ⟨L, hL⟩ : ∃ L : Nat, n % 18446744073709551616 = L := ⟨_, rfl⟩
  rw [hq] at e3 hD ⊢
  rw [hr] at e4 hD ⊢
  rw [h1, hL] at e1
  rw [h2, hH] at e0
  rw [hH, hL] at hD
  rw [hH] at g3
  rw [h3] at e2 g2 ⊢
  rw [h1, h2]
  clear h1 h2 h3 hq hr hH hL hn hlt hqlt hrlt hB hB0
  go_enter Tryz.func129, Tryz.ntmps129
  go_wp2_with fail
  refine (hD _).mono ?_
  rintro _ w1 ⟨rfl, t1⟩
  clear hD
  go_wp2_with fail
  go_ret3
  exact ⟨rfl, ((Touch.refl [] w).alloc _).trans t1 (by simp)⟩
set_option maxRecDepth 100000 in
set_option maxHeartbeats 1000000 in
theorem stepP (n B : Nat) (hn : n < 340282366920938463463374607431768211456) (hB0 : 2 ≤ B) (hB : B ≤ 36) (w : World) :
    Calls Tryz.prog 234 #[.agg (two n), .int .i64 (B : Int)] w fun e w' => e = .returned (.tuple #[.agg (two (n / B)), .int .u8 (((digC (n % B)).toNat : Nat) : Int)]) ∧ Touch [] w w' := by
  obtain ⟨l1, l2⟩ := step_law n B (by omega)
  have hr1 : n / 18446744073709551616 % B < B := Nat.mod_lt _ (by omega)
  have hH : n / 18446744073709551616 < 18446744073709551616 := by omega
  have hq1 : n / 18446744073709551616 / B < 18446744073709551616 := Nat.lt_of_le_of_lt (Nat.div_le_self _ _) hH
  have hr := fun W => rightD_any (B : Int) (by omega) (by omega) W
  have u1 := fun W => udivP (n / 18446744073709551616) B (by omega) (by omega) (by omega) (by rw [Nat.div_eq_of_lt hH]; omega) W
  obtain ⟨m, hm⟩ : ∃ m, n % 18446744073709551616 + 18446744073709551616 * (n / 18446744073709551616 % B) = m := ⟨_, rfl⟩
  rw [hm] at l1 l2
  have hm128 : m < 340282366920938463463374607431768211456 := by
    rw [← hm]
    omega
  have u2 := fun W => udivP m B hm128 (by omega) (by omega) (by omega) W
  have hmB : m % B < B := Nat.mod_lt _ (by omega)
  have hch := fun W => char_any (m % B) (by omega) W
  have e1 : two (n / 18446744073709551616) = #[.int .i64 (ph n), .int .i64 0] := by
    unfold two pl ph
    rw [Nat.div_eq_of_lt hH]
    rfl
  have e2 : two m = #[.int .i64 (pl n), .int .i64 (cellOf (n / 18446744073709551616 % B))] := by
    unfold two pl ph
    rw [show m % 18446744073709551616 = n % 18446744073709551616 by omega, show m / 18446744073709551616 % 18446744073709551616 = n / 18446744073709551616 % B by omega]
  have hq2 : m / B < 18446744073709551616 := by rw [Nat.div_lt_iff_lt_mul (by omega)]; omega
  have e3 : two (n / B) = #[.int .i64 (cellOf (m / B)), .int .i64 (cellOf (n / 18446744073709551616 / B))] := by
    have key : ∀ g t : Nat, t < 18446744073709551616 → (g * 18446744073709551616 + t) % 18446744073709551616 = t ∧ (g * 18446744073709551616 + t) / 18446744073709551616 = g := fun g t h => by omega
    obtain ⟨f1, f2⟩ := key (n / 18446744073709551616 / B) _ hq2
    rw [← l1] at f1 f2
    unfold two pl ph
    rw [f1, f2, Nat.mod_eq_of_lt hq1]
  rw [e1] at u1
  rw [e2] at u2
  rw [e3, l2]
  rw [small_cell (m % B) (by omega)] at u2
  have e4 : two n = #[.int .i64 (pl n), .int .i64 (ph n)] := rfl
  have e5 : cellOf B = (B : Int) := small_cell B (by omega)
  rw [e5] at u1 u2
  rw [e4]
  obtain ⟨lo, h1⟩ : ∃ c : Int, pl n = c := ⟨_, rfl⟩
  obtain ⟨hi, h2⟩ : ∃ c : Int, ph n = c := ⟨_, rfl⟩
  obtain ⟨q1, h3⟩ : ∃ c : Int, cellOf (n / 18446744073709551616 / B) = c := ⟨_, rfl⟩
  obtain ⟨r1, h4⟩ : ∃ c : Int, cellOf (n / 18446744073709551616 % B) = c := ⟨_, rfl⟩
  obtain ⟨q2, h5⟩ : ∃ c : Int, cellOf (m / B) = c := ⟨_, rfl⟩
  obtain ⟨d, h6⟩ : ∃ d : Nat, m % B = d := ⟨_, rfl⟩
  rw [h2, h3, h4] at u1
  rw [h1, h4, h5, h6] at u2
  rw [h6] at hch
  rw [h1, h2, h3, h5, h6]
  clear h1 h2 h3 h4 h5 h6 e1 e2 e3 e4 e5 l1 l2 hr1 hH hq1 hq2 hm hm128 hmB hn
  go_enter Tryz.func234, Tryz.ntmps234
  go_wp2_with fail
  refine (hr _).mono ?_
  rintro _ _ ⟨rfl, rfl⟩
  clear hr
  have bP := (Blk.new w 38 #[.int .i64 lo, .int .i64 hi]).alloc (.cells #[.int .i64 0, .int .i64 0] 38)
  have bR := Blk.new_at (n := w.heap.size + 1) (w.alloc (.cells #[.int .i64 lo, .int .i64 hi] 38)) (by simp) 38 #[.int .i64 0, .int .i64 0]
  have tt := ((Touch.refl [] w).alloc (.cells #[.int .i64 lo, .int .i64 hi] 38)).alloc (.cells #[.int .i64 0, .int .i64 0] 38)
  go_wp2_with fail
  refine (u1 _).mono ?_
  rintro _ w1 ⟨rfl, t1⟩
  have bP := bP.touch t1 (by simp)
  have bR := bR.touch t1 (by simp)
  have tw := tt.trans t1 (by simp)
  clear t1 u1 tt
  have p0 := bP.cell 0
  go_wp2_with fail
  refine (u2 _).mono ?_
  rintro _ w2 ⟨rfl, t2⟩
  have bR := bR.touch t2 (by simp)
  have tw := tw.trans t2 (by simp)
  clear t2 u2 bP p0
  have r0 := bR.cell 0
  have r1' := bR.cell 1
  have g0 := bR.frozen 0
  have g1 := bR.frozen 1
  go_wp2_with fail
  refine (hch _).mono ?_
  rintro _ _ ⟨rfl, rfl⟩
  go_wp2_with fail
  obtain ⟨z0, z1⟩ := two_back bR (.int .i64 q2) (.int .i64 q1)
  refine bodyPost_ret (by simp [results, Tryz.results234, go_sem, z0, z1]; try rfl) rfl ⟨rfl, ?_⟩
  exact (tw.setCell (.inr (by simp)) _).setCell (.inr (by simp)) _
end Go.Proofs.YtkbchpaofmlhgaaGreatDoor

/- digit.Text and Signed of any pair. Printed by textp.py. -/
namespace Go.Proofs.YtkbchpaofmlhgaaGreatDoor
open Go.RowKit

/-- where a digit's loop stands: the row of digits, the pair's number -/
structure DigLoopP (w0 : World) (B n : Nat) (acc : List UInt8) (m : Nat) (more : Bool) (sv : Value) (wr : World) : Prop where
  row : wr.ownsRow (w0.heap.size + 1) 5 1 sv acc.length (bytesV (numsU acc))
  pair : Blk wr w0.heap.size 38 #[.int .i64 (pl m), .int .i64 (ph m)]
  t : Touch [] w0 wr
  small : m < 2 ^ (128 - acc.length)
  short : acc.length ≤ 128
  live : more = true → acc = [] ∨ m ≠ 0
  text : baseL B n = (if more then baseL B m else []) ++ acc.reverse
set_option maxRecDepth 100000 in
set_option maxHeartbeats 3200000 in
theorem textP (n B : Nat) (hn : n < 340282366920938463463374607431768211456) (hB0 : 2 ≤ B) (hB : B ≤ 36) (w : World) :
    Calls Tryz.prog 250 #[.agg #[.int .i64 (pl n), .int .i64 (ph n)], .int .i64 (B : Int)] w fun e w' => e = .returned (.string ⟨(baseL B n).toArray⟩) ∧ Touch [] w w' := by
  obtain ⟨i0, hi, hz0, hz1, hz2⟩ := info_byte'
  have hrt := fun W => rightD_any (B : Int) (by omega) (by omega) W
  have hstep := fun m (hm : m < 340282366920938463463374607431768211456) W => stepP m B hm hB0 hB W
  go_enter Tryz.func250, Tryz.ntmps250
  go_wp2_with fail
  refine (hrt _).mono ?_
  rintro _ _ ⟨rfl, rfl⟩
  have b0 := Blk.new w 38 #[.int .i64 (pl n), .int .i64 (ph n)]
  have t0 := (Touch.refl [] w).alloc (.cells #[.int .i64 (pl n), .int .i64 (ph n)] 38)
  have HD : Hid (DigLoopP w B n [] n true (.slice none 0 0) (w.alloc (.cells #[.int .i64 (pl n), .int .i64 (ph n)] 38))) := ⟨World.ownsRow_nil _ _ _ _, b0, t0, hn, by decide, fun _ => .inl rfl, by simp⟩
  clear b0 t0
  go_wp2_with fail
  go_loopw [5, 6] (fun sv mv wr => ∃ acc m more, mv = .bool more ∧ DigLoopP w B n acc m more sv wr) (fun sv _ _ => match sv with | .slice _ k _ => 129 - k | _ => 0)
  case atStart => exact ⟨[], n, true, rfl, HD.out⟩
  case round =>
    obtain ⟨acc, m, more, rfl, hD⟩ := hrel
    obtain ⟨ra, rc, rfl⟩ := own_slice hD.row
    cases more with
    | false =>
      have hrev := rev_any wr (w.heap.size + 1) _ (numsU acc) (by rw [numsU_len]; exact hD.row)
      have HT := Lib.hid (And.intro hD.text hD.t)
      have hlow := own_from hD.row
      have HL := Lib.hid hlow
      clear hD hrt hstep hlow
      go_wp2_with fail
      refine hrev.mono ?_
      rintro _ w1 ⟨rfl, hown, t1⟩
      have hc := row_text (w := w1) (v := .slice ra acc.length rc) (l := (numsU acc).reverse) ⟨by rw [List.length_reverse]; exact own_low hown, fun x hx => numsU_bytes acc x (List.mem_reverse.1 hx)⟩
      have tw := HT.out.2.trans t1 (fun g hg => .inr (by have := HL.out g hg; omega))
      have HW := Lib.hid tw
      clear hrev hown t1 tw
      go_wp2_with fail
      go_ret
      refine ⟨?_, HW.out⟩
      have e1 : (numsU acc).reverse = numsU acc.reverse := by unfold numsU; rw [List.map_reverse]
      have e2 := HT.out.1
      rw [if_neg (by simp), List.nil_append] at e2
      rw [e1, numsU_str, e2]
      rfl
    | true =>
      have hm64 : m < 340282366920938463463374607431768211456 := Nat.lt_of_lt_of_le hD.small (Nat.pow_le_pow_right (by decide) (by omega) : 2 ^ (128 - acc.length) ≤ 2 ^ 128)
      have hs := hstep m hm64
      obtain ⟨c, hc⟩ : ∃ c, digC (m % B) = c := ⟨_, rfl⟩
      obtain ⟨m2, hm2⟩ : ∃ m2, m / B = m2 := ⟨_, rfl⟩
      rw [hc, hm2] at hs
      have HC := Lib.hid hc
      have HM2 := Lib.hid hm2
      have hm2lt : m2 < 340282366920938463463374607431768211456 := by rw [← hm2]; exact Nat.lt_of_le_of_lt (Nat.div_le_self _ _) hm64
      have p0 := hD.pair.cell 0
      have p1 := hD.pair.cell 1
      have HD1 := Lib.hid hD
      clear hc hm2 hD hstep hrt
      go_wp2_with fail
      refine (hs _).mono ?_
      rintro _ w1 ⟨rfl, t1⟩
      have bP := HD1.out.pair.touch t1 (by simp)
      have rw1 := row_touch HD1.out.row t1 (by simp)
      have tw := HD1.out.t.trans t1 (by simp)
      clear t1 hs p0 p1
      have p0 := bP.cell 0
      have p1 := bP.cell 1
      have g0 := bP.frozen 0
      have g1 := bP.frozen 1
      go_upto_region 9 with (fail)
      have bP2 := bP.two_set (.int .i64 (pl m2)) (.int .i64 (ph m2))
      have tw2 := (tw.setCell (p := ⟨w.heap.size, 0, none⟩) (.inr (Nat.le_refl _)) (.int .i64 (pl m2))).setCell (p := ⟨w.heap.size, 1, none⟩) (.inr (Nat.le_refl _)) (.int .i64 (ph m2))
      have hlow : ∀ x ∈ rowOf (.slice ra acc.length rc), w.heap.size + 1 ≤ x := own_from rw1
      have rw2 := row_touch rw1 (F := [w.heap.size]) (((Touch.refl _ w1).setCell (p := ⟨w.heap.size, 0, none⟩) (by simp) (.int .i64 (pl m2))).setCell (p := ⟨w.heap.size, 1, none⟩) (by simp) (.int .i64 (ph m2))) (fun x hx hm => by have := hlow x hx; rw [List.mem_singleton.1 hm] at this; omega)
      clear p0 p1 g0 g1 bP tw rw1
      generalize (w1.setCell ⟨w.heap.size, 0, none⟩ (.int .i64 (pl m2))).setCell ⟨w.heap.size, 1, none⟩ (.int .i64 (ph m2)) = w2 at *
      have z2 := bP2.lt
      have HP := Lib.hid (And.intro bP2 (And.intro tw2 hlow))
      have hal := HD1.out.short
      have HR := Lib.hid rw2
      clear bP2 tw2 rw2 hlow
      go_wp2_with (at_builtin; refine wpList_append_own_at _ rfl _ _ 66 rfl (w.heap.size + 1) 5 i0 (.int .u8 0) 1 1 Tryz.underlying66 hi hz0 hz1 hz2 rfl (by decide) _ _ _ rfl (HR.out.alloc _) ⟨w2.heap.size, 0, none⟩ 1 1 [.int .u8 (c.toNat : Int)] rfl rfl ?qc2 ?qc3 ?qc4 ?qc5 ?qc6 ?_)
      case qc2 =>
        intro j u hj
        rw [add_off, Nat.zero_add]
        exact ((Blk.new w2 5 #[.int .u8 (c.toNat : Int)]).cell j).trans (by simpa using hj)
      case qc3 => simp [Value.oneCell']
      case qc4 => unfold maxLen; omega
      case qc5 => omega
      case qc6 => simp; omega
      intro v' w3 hown hgr hnil hloc
      obtain ⟨a3, c3, rfl⟩ := own_slice hown
      obtain ⟨bP2, tw2, hlow⟩ := HP.out
      have bP3 := (bP2.alloc (.cells #[.int .u8 (c.toNat : Int)] 5)).grown hgr (fun e => by have := hlow w.heap.size (rowOf_mem.2 e.symm); omega)
      have tw3 : Touch [] w w3 := (tw2.alloc (.cells #[.int .u8 (c.toNat : Int)] 5)).grown hgr (fun k hk => .inr (by have := hlow k (rowOf_mem.2 hk); omega))
      have hrow : w3.ownsRow (w.heap.size + 1) 5 1 (.slice a3 (acc.length + 1) c3) (acc ++ [c]).length (bytesV (numsU (acc ++ [c]))) := by
        have e : bytesV (numsU (acc ++ [c])) = bytesV (numsU acc) ++ [.int .u8 (c.toNat : Int)] := by simp [bytesV, numsU]
        rw [e, List.length_append]
        exact hown
      have p0 := bP3.cell 0
      have p1 := bP3.cell 1
      have heq := fun W => pair_neq (pl m2) (ph m2) 0 0 W
      rw [pair_nil m2 hm2lt] at heq
      have hgd := pair_guard
      have hB0' : 0 < B := by omega
      have HB := Lib.hid (And.intro bP3 (And.intro tw3 hrow))
      clear bP2 tw2 hlow bP3 tw3 hrow hown hgr hnil hloc
      have hal1 : acc.length + 1 ≤ 128 := by
        have h1 := HD1.out.small
        rcases Nat.lt_or_ge acc.length 128 with h | h
        · exact h
        · rw [show 128 - acc.length = 0 by omega, Nat.pow_zero] at h1
          rcases HD1.out.live rfl with h2 | h2
          · rw [h2] at h; simp at h
          · omega
      by_cases hz : m2 = 0
      · rw [decide_eq_true hz] at heq
        have hmB : m < B := by
          have := HM2.out
          rw [hz] at this
          exact (Nat.div_eq_zero_iff_lt hB0').1 this
        have HF : Hid (DigLoopP w B n (acc ++ [c]) m2 false (.slice a3 (acc.length + 1) c3) w3) := by
          have ht := HD1.out.text
          refine ⟨HB.out.2.2, HB.out.1, HB.out.2.1, ?_, by simpa using hal1, fun h => by simp at h, ?_⟩
          · rw [hz]; exact Nat.two_pow_pos _
          · rw [ht, if_pos rfl, baseL_last B m hmB, if_neg (by simp), ← HC.out, Nat.mod_eq_of_lt hmB]
            simp
        clear hz hmB HB
        go_wp2_with fail
        exact ⟨⟨_, _, false, rfl, HF.out⟩, by show 129 - (acc.length + 1) < 129 - acc.length; omega⟩
      · rw [decide_eq_false hz] at heq
        have hBm : B ≤ m := by
          rcases Nat.lt_or_ge m B with h | h
          · exact absurd (by rw [← HM2.out, Nat.div_eq_of_lt h]) hz
          · exact h
        have HF : Hid (DigLoopP w B n (acc ++ [c]) m2 true (.slice a3 (acc.length + 1) c3) w3) := by
          have ht := HD1.out.text
          have h1 := HD1.out.small
          refine ⟨HB.out.2.2, HB.out.1, HB.out.2.1, ?_, by simpa using hal1, fun _ => .inr hz, ?_⟩
          · rw [List.length_append, List.length_singleton]
            rw [show 128 - acc.length = (128 - (acc.length + 1)) + 1 by omega, Nat.pow_succ] at h1
            rw [← HM2.out]
            have h2 : m / B ≤ m / 2 := Nat.div_le_div_left hB0 (by omega)
            omega
          · rw [ht, if_pos rfl, if_pos rfl, baseL_more B m hB0 hBm, HM2.out, HC.out]
            simp
        clear hz hBm HB
        go_wp2_with fail
        exact ⟨⟨_, _, true, rfl, HF.out⟩, by show 129 - (acc.length + 1) < 129 - acc.length; omega⟩

end Go.Proofs.YtkbchpaofmlhgaaGreatDoor

/- The package pair: what its functions make of pairs, as functions of the pairs alone. -/
namespace Go.Proofs.YtkbchpaofmlhgaaGreatDoor
open Go.RowKit

/-- a pair as it lies -/
def pairW (p : Int × Int) : Value := .agg #[.int .i64 p.1, .int .i64 p.2]

theorem run_Add64 (x y c : Int) (hx : 0 ≤ x) (hy : 0 ≤ y) (hc0 : 0 ≤ c) (hc : c ≤ 1) (w : World) :
    (callFunc 209 #[.int .u64 x, .int .u64 y, .int .u64 c]).run Tryz.prog w = .ok (.value (.tuple #[.int .u64 ((x + y + c) % 18446744073709551616), .int .u64 ((x + y + c) / 18446744073709551616)])) w := by
  rw [run_callFunc_extern Tryz.func209 (by kernel_rfl) (by kernel_rfl) (by kernel_rfl) (e := add64Entry) (by kernel_rfl)]
  rw [run_add64 x y c hx hy hc0 hc w]
  rfl

/-- the low 64 bits of a cell, as a number -/
def b64 (a : Int) : Nat := (a % 18446744073709551616).toNat
theorem b64_lt (a : Int) : b64 a < 18446744073709551616 := by unfold b64; omega
theorem b64_wrap (a : Int) : IntKind.u64.wrap a = (b64 a : Int) := by rw [IntKind.wrap_u64]; unfold b64; omega

theorem made_any (hi lo : Int) (w : World) : Calls Tryz.prog 210 #[.int .u64 hi, .int .u64 lo] w fun e w' => e = .returned (pairW (wrap64 lo, wrap64 hi)) ∧ Touch [] w w' := by
  unfold pairW
  go_enter Tryz.func210, Tryz.ntmps210
  go_wp2_with fail
  go_returns
  exact ⟨rfl, (Touch.refl _ _).alloc _⟩

def ofP (a : Int) : Int × Int := (a, a / 9223372036854775808)
theorem Of_any (a : Int) (w : World) : Calls Tryz.prog 105 #[.int .i64 a] w fun e w' => e = .returned (pairW (ofP a)) ∧ Touch [] w w' := by
  unfold pairW ofP
  go_enter Tryz.func105, Tryz.ntmps105
  go_wp2_with fail
  go_returns
  exact ⟨rfl, (Touch.refl _ _).alloc _⟩

def umulP (a b : Int) : Int × Int := (wrap64 ((b64 a * b64 b % 18446744073709551616 : Nat) : Int), wrap64 ((b64 a * b64 b / 18446744073709551616 : Nat) : Int))
theorem UMul_any (a b : Int) (w : World) : Calls Tryz.prog 119 #[.int .i64 a, .int .i64 b] w fun e w' => e = .returned (pairW (umulP a b)) ∧ Touch [] w w' := by
  have ha := b64_wrap a
  have hb := b64_wrap b
  have hmul := fun w => Tryz.bits_Mul64 (b64 a) (b64 b) (b64_lt a) (b64_lt b) w
  unfold umulP
  obtain ⟨s, hs⟩ : ∃ s : Int, ((b64 a * b64 b % 18446744073709551616 : Nat) : Int) = s := ⟨_, rfl⟩
  obtain ⟨u, hu⟩ : ∃ s : Int, ((b64 a * b64 b / 18446744073709551616 : Nat) : Int) = s := ⟨_, rfl⟩
  rw [hs, hu]
  simp only [hs, hu] at hmul
  clear hs hu
  unfold pairW
  go_enter Tryz.func119, Tryz.ntmps119
  go_wp2_with (simp only [ha, hb])
  refine (hmul _).mono ?_
  rintro _ _ ⟨rfl, rfl⟩
  go_wp2_with fail
  refine (made_any _ _ _).mono ?_
  rintro _ w1 ⟨rfl, t1⟩
  have b4 := (Blk.new w 38 #[.int .i64 0, .int .i64 0]).touch t1 (by simp)
  have t2 : Touch [] w w1 := ((Touch.refl [] w).alloc _).trans t1 (by simp)
  have e0 := b4.cell 0
  have e1 := b4.cell 1
  have f0 := b4.frozen 0
  have f1 := b4.frozen 1
  clear t1
  unfold pairW
  go_wp2_with fail
  obtain ⟨z0, z1⟩ := two_back b4 (.int .i64 (wrap64 s)) (.int .i64 (wrap64 u))
  refine bodyPost_ret (by simp [results, Tryz.results119, go_sem, z0, z1]; try rfl) rfl ⟨rfl, ?_⟩
  exact (t2.setCell (.inr (Nat.le_refl _)) _).setCell (.inr (Nat.le_refl _)) _

/-- sums -/
def addP (p q : Int × Int) : Int × Int :=
  let s : Int := (b64 p.1 : Int) + b64 q.1
  (wrap64 (s % 18446744073709551616), wrap64 (((b64 p.2 : Int) + b64 q.2 + s / 18446744073709551616) % 18446744073709551616))
set_option maxRecDepth 100000 in
theorem Add_any (p q : Int × Int) (w : World) : Calls Tryz.prog 107 #[pairW p, pairW q] w fun e w' => e = .returned (pairW (addP p q)) ∧ Touch [] w w' := by
  obtain ⟨a, c⟩ := p
  obtain ⟨b, d⟩ := q
  have ha := b64_wrap a
  have hb := b64_wrap b
  have hc := b64_wrap c
  have hd := b64_wrap d
  have la := b64_lt a
  have lb := b64_lt b
  have r1 := fun w => run_Add64 (b64 a) (b64 b) 0 (by omega) (by omega) (by omega) (by omega) w
  obtain ⟨k, hk, hk0, hk1⟩ : ∃ k : Int, ((b64 a : Int) + b64 b + 0) / 18446744073709551616 = k ∧ 0 ≤ k ∧ k ≤ 1 := ⟨_, rfl, by omega, by omega⟩
  have r2 := fun w => run_Add64 (b64 c) (b64 d) k (by omega) (by omega) hk0 hk1 w
  obtain ⟨s, hs⟩ : ∃ s : Int, ((b64 a : Int) + b64 b + 0) % 18446744073709551616 = s := ⟨_, rfl⟩
  obtain ⟨u, hu⟩ : ∃ s : Int, ((b64 c : Int) + b64 d + k) % 18446744073709551616 = s := ⟨_, rfl⟩
  obtain ⟨m, hm⟩ : ∃ s : Int, ((b64 c : Int) + b64 d + k) / 18446744073709551616 = s := ⟨_, rfl⟩
  have hr : addP (a, c) (b, d) = (wrap64 s, wrap64 u) := by
    rw [Int.add_zero] at hk hs
    simp only [addP, hk, hs, hu]
  rw [hk, hs] at r1
  rw [hu, hm] at r2
  rw [hr]
  clear hr hk hs hu hm la lb
  unfold pairW
  go_enter Tryz.func107, Tryz.ntmps107
  go_wp2_with (simp only [ha, hb, hc, hd])
  refine (made_any _ _ _).mono ?_
  rintro _ w1 ⟨rfl, t1⟩
  have b4 := (Blk.new_at2 t1 (n := w.heap.size + 2) (by simp))
  have t2 : Touch [] w w1 := ((((Touch.refl [] w).alloc _).alloc _).alloc _).trans t1 (by simp)
  have e0 := b4.cell 0
  have e1 := b4.cell 1
  have f0 := b4.frozen 0
  have f1 := b4.frozen 1
  clear t1
  unfold pairW
  go_wp2_with fail
  obtain ⟨z0, z1⟩ := two_back b4 (.int .i64 (wrap64 s)) (.int .i64 (wrap64 u))
  refine bodyPost_ret (by simp [results, Tryz.results107, go_sem, z0, z1]; try rfl) rfl ⟨rfl, ?_⟩
  exact (t2.setCell (.inr (by simp; omega)) _).setCell (.inr (by simp; omega)) _

theorem run_Sub64 (x y c : Nat) (hc : c ≤ 1) (w : World) :
    (callFunc 211 #[.int .u64 x, .int .u64 y, .int .u64 c]).run Tryz.prog w = .ok (.value (.tuple #[.int .u64 (((x + 18446744073709551616 - y - c) % 18446744073709551616 : Nat) : Int), .int .u64 ((if x < y + c then 1 else 0 : Nat) : Int)])) w := by
  obtain ⟨E, hE, hr⟩ : ∃ E : Array Value → Sem Value, E = (fun args => do
    let (x, y, b) ← Extern.MathBitsCarry.three "Sub64" args
    pure (Extern.MathBitsCarry.pair ((x + Extern.MathBitsCarry.m64 - y - b) % Extern.MathBitsCarry.m64) (if x < y + b then 1 else 0))) ∧ True := ⟨_, rfl, trivial⟩
  rw [run_callFunc_extern Tryz.func211 (by kernel_rfl) (by kernel_rfl) (by kernel_rfl) (e := E) (by subst hE; kernel_rfl)]
  subst hE
  have : c = 0 ∨ c = 1 := by omega
  rcases this with rfl | rfl <;> rfl

/-- less a pair -/
def negP (p : Int × Int) : Int × Int :=
  let k : Nat := if 0 < b64 p.1 + 0 then 1 else 0
  (wrap64 (((0 + 18446744073709551616 - b64 p.1 - 0) % 18446744073709551616 : Nat) : Int), wrap64 (((0 + 18446744073709551616 - b64 p.2 - k) % 18446744073709551616 : Nat) : Int))
set_option maxRecDepth 100000 in
theorem Neg_any (p : Int × Int) (w : World) : Calls Tryz.prog 111 #[pairW p] w fun e w' => e = .returned (pairW (negP p)) ∧ Touch [] w w' := by
  obtain ⟨a, c⟩ := p
  have ha := b64_wrap a
  have hc := b64_wrap c
  have r1 := fun w => run_Sub64 0 (b64 a) 0 (by omega) w
  obtain ⟨k, hk, hk1⟩ : ∃ k : Nat, (if 0 < b64 a + 0 then 1 else 0) = k ∧ k ≤ 1 := ⟨_, rfl, by split <;> omega⟩
  have r2 := fun w => run_Sub64 0 (b64 c) k hk1 w
  obtain ⟨s, hs⟩ : ∃ s : Int, (((0 + 18446744073709551616 - b64 a - 0) % 18446744073709551616 : Nat) : Int) = s := ⟨_, rfl⟩
  obtain ⟨u, hu⟩ : ∃ s : Int, (((0 + 18446744073709551616 - b64 c - k) % 18446744073709551616 : Nat) : Int) = s := ⟨_, rfl⟩
  obtain ⟨m, hm⟩ : ∃ s : Int, ((if 0 < b64 c + k then 1 else 0 : Nat) : Int) = s := ⟨_, rfl⟩
  have hr : negP (a, c) = (wrap64 s, wrap64 u) := by
    simp only [negP, hk, hs, hu]
  rw [hk, hs] at r1
  rw [hu, hm] at r2
  rw [hr]
  clear hr hk hs hu hm hk1
  have z0 : ((0 : Nat) : Int) = 0 := rfl
  rw [z0] at r1 r2
  unfold pairW
  go_enter Tryz.func111, Tryz.ntmps111
  go_wp2_with (simp only [ha, hc])
  refine (made_any _ _ _).mono ?_
  rintro _ w1 ⟨rfl, t1⟩
  have b4 := (Blk.new_at2 t1 (n := w.heap.size + 1) (by simp))
  have t2 : Touch [] w w1 := (((Touch.refl [] w).alloc _).alloc _).trans t1 (by simp)
  have e0 := b4.cell 0
  have e1 := b4.cell 1
  have f0 := b4.frozen 0
  have f1 := b4.frozen 1
  clear t1
  unfold pairW
  go_wp2_with fail
  obtain ⟨z0, z1⟩ := two_back b4 (.int .i64 (wrap64 s)) (.int .i64 (wrap64 u))
  refine bodyPost_ret (by simp [results, Tryz.results111, go_sem, z0, z1]; try rfl) rfl ⟨rfl, ?_⟩
  exact (t2.setCell (.inr (by simp)) _).setCell (.inr (by simp)) _
end Go.Proofs.YtkbchpaofmlhgaaGreatDoor

/- Signed texts of any pair: the document's, and digit's. Printed by signp.py. -/
namespace Go.Proofs.YtkbchpaofmlhgaaGreatDoor
open Go.RowKit

/-- the pair of a cell, as a number -/
def ofN (a : Int) : Nat := (a % 340282366920938463463374607431768211456).toNat
theorem ofN_lt (a : Int) : ofN a < 340282366920938463463374607431768211456 := by unfold ofN; omega
theorem ofN_cells (a : Int) (h0 : -9223372036854775808 ≤ a) (h1 : a ≤ 9223372036854775807) : pl (ofN a) = a ∧ ph (ofN a) = if a < 0 then -1 else 0 := by
  unfold pl ph ofN cellOf
  constructor
  · split <;> omega
  · by_cases h : a < 0
    · rw [if_pos h]
      split <;> omega
    · rw [if_neg h]
      split <;> omega

theorem baseL_len (B : Nat) (hB : 2 ≤ B) : ∀ (k n : Nat), n < 2 ^ (k + 1) → (baseL B n).length ≤ k + 1
  | 0, n, h => by
    rw [baseL_last B n (by omega)]
    exact Nat.le_refl _
  | k + 1, n, h => by
    by_cases hn : n < B
    · rw [baseL_last B n hn]
      simp
    · rw [baseL_more B n hB (by omega), List.length_append, List.length_singleton]
      have h2 : n / B ≤ n / 2 := Nat.div_le_div_left hB (by omega)
      have := baseL_len B hB k (n / B) (by rw [Nat.pow_succ] at h; omega)
      omega
theorem baseL_size (B n : Nat) (hB : 2 ≤ B) (hn : n < 340282366920938463463374607431768211456) : (⟨(baseL B n).toArray⟩ : ByteArray).size ≤ 128 := by
  have h := baseL_len B hB 127 n hn
  simpa [ByteArray.size] using h

/-- a pair with its sign -/
def signedL (B N : Nat) : List UInt8 := if 170141183460469231731687303715884105728 ≤ N then 45 :: baseL B ((340282366920938463463374607431768211456 - N) % 340282366920938463463374607431768211456) else baseL B N
set_option maxRecDepth 100000 in
theorem signed_any (N B : Nat) (hN : N < 340282366920938463463374607431768211456) (hB0 : 2 ≤ B) (hB : B ≤ 36) (w : World) :
    Calls Tryz.prog 21 #[.agg (two N), .int .i64 (B : Int)] w fun e w' => e = .returned (.string ⟨(signedL B N).toArray⟩) ∧ Touch [] w w' := by
  have hrt := fun W => right_any (B : Int) (by omega) (by omega) W
  have hsg := ph_neg N hN
  have b0 := Blk.new w 38 #[.int .i64 (pl N), .int .i64 (ph N)]
  have tw := (Touch.refl [] w).alloc (.cells #[.int .i64 (pl N), .int .i64 (ph N)] 38)
  by_cases h : 170141183460469231731687303715884105728 ≤ N
  · have hn := hsg.2 h
    have hneg := fun W => neg_p N hN _ rfl W
    have htx := fun W => text_any ((340282366920938463463374607431768211456 - N) % 340282366920938463463374607431768211456) B (Nat.mod_lt _ (by omega)) hB0 hB W
    have e : signedL B N = 45 :: baseL B ((340282366920938463463374607431768211456 - N) % 340282366920938463463374607431768211456) := by unfold signedL; rw [if_pos h]
    rw [e]
    have hlen := baseL_size B ((340282366920938463463374607431768211456 - N) % 340282366920938463463374607431768211456) hB0 (Nat.mod_lt _ (by omega))
    obtain ⟨R, hR⟩ : ∃ R, (340282366920938463463374607431768211456 - N) % 340282366920938463463374607431768211456 = R := ⟨_, rfl⟩
    rw [hR] at hneg htx hlen ⊢
    have hcat : (⟨(45 :: baseL B R).toArray⟩ : ByteArray) = (⟨#[45]⟩ : ByteArray) ++ ⟨(baseL B R).toArray⟩ := str_ext (by simp)
    rw [hcat]
    obtain ⟨S, hS⟩ : ∃ S : ByteArray, ⟨(baseL B R).toArray⟩ = S := ⟨_, rfl⟩
    rw [hS] at htx hlen ⊢
    unfold two at htx ⊢
    clear hR e h hsg hcat hS
    go_enter Tryz.func21, Tryz.ntmps21
    go_wp2_with fail
    refine (hrt _).mono ?_
    rintro _ _ ⟨rfl, rfl⟩
    go_wp2_with fail
    refine (hneg _).mono ?_
    rintro _ w1 ⟨rfl, t1⟩
    have tw := tw.trans t1 (by simp)
    go_wp2_with fail
    refine (htx _).mono ?_
    rintro _ w2 ⟨rfl, t2⟩
    have tw := tw.trans t2 (by simp)
    go_wp2_with fail
    go_ret
    exact ⟨rfl, tw⟩
  · have hn : ¬ ph N < 0 := fun h' => h (hsg.1 h')
    have htx := fun W => text_any N B hN hB0 hB W
    have e : signedL B N = baseL B N := by unfold signedL; rw [if_neg h]
    rw [e]
    unfold two at htx ⊢
    clear e h hsg hrt
    go_enter Tryz.func21, Tryz.ntmps21
    go_wp2_with fail
    refine (htx _).mono ?_
    rintro _ w2 ⟨rfl, t2⟩
    have tw := tw.trans t2 (by simp)
    go_wp2_with fail
    go_ret
    exact ⟨rfl, by first | exact tw | exact (Touch.refl _ _).alloc _⟩

theorem wrap_nat (n : Nat) (h : n < 18446744073709551616) : wrap64 (n : Int) = cellOf n := by unfold wrap64 cellOf; split <;> omega
theorem b64_pl (n : Nat) : b64 (pl n) = n % 18446744073709551616 := by unfold b64 pl cellOf; split <;> omega
theorem b64_ph (n : Nat) (hn : n < 340282366920938463463374607431768211456) : b64 (ph n) = n / 18446744073709551616 := by unfold b64 ph cellOf; split <;> omega
theorem negP_num (n : Nat) (hn : n < 340282366920938463463374607431768211456) : negP (pl n, ph n) = (pl ((340282366920938463463374607431768211456 - n) % 340282366920938463463374607431768211456), ph ((340282366920938463463374607431768211456 - n) % 340282366920938463463374607431768211456)) := by
  unfold negP
  simp only [b64_pl, b64_ph n hn]
  obtain ⟨L, hL⟩ : ∃ L, n % 18446744073709551616 = L := ⟨_, rfl⟩
  obtain ⟨H, hH⟩ : ∃ H, n / 18446744073709551616 = H := ⟨_, rfl⟩
  rw [hL, hH, wrap_nat _ (Nat.mod_lt _ (by decide)), wrap_nat _ (Nat.mod_lt _ (by decide))]
  unfold pl ph
  obtain ⟨r, hr⟩ : ∃ r, (340282366920938463463374607431768211456 - n) % 340282366920938463463374607431768211456 = r := ⟨_, rfl⟩
  rw [hr]
  have e1 : (0 + 18446744073709551616 - L - 0) % 18446744073709551616 = r % 18446744073709551616 := by omega
  have e2 : (0 + 18446744073709551616 - H - if 0 < L + 0 then 1 else 0) % 18446744073709551616 = r / 18446744073709551616 % 18446744073709551616 := by split <;> omega
  rw [e1, e2]
theorem pneg_any (n : Nat) (hn : n < 340282366920938463463374607431768211456) (w : World) : Calls Tryz.prog 111 #[.agg (two n)] w fun e w' => e = .returned (.agg (two ((340282366920938463463374607431768211456 - n) % 340282366920938463463374607431768211456))) ∧ Touch [] w w' := by
  have h := Neg_any (pl n, ph n) w
  rw [negP_num n hn] at h
  exact h
set_option maxRecDepth 100000 in
theorem signedP (N B : Nat) (hN : N < 340282366920938463463374607431768211456) (hB0 : 2 ≤ B) (hB : B ≤ 36) (w : World) :
    Calls Tryz.prog 232 #[.agg (two N), .int .i64 (B : Int)] w fun e w' => e = .returned (.string ⟨(signedL B N).toArray⟩) ∧ Touch [] w w' := by
  have hrt := fun W => rightD_any (B : Int) (by omega) (by omega) W
  have hsg := ph_neg N hN
  have b0 := Blk.new w 38 #[.int .i64 (pl N), .int .i64 (ph N)]
  have tw := (Touch.refl [] w).alloc (.cells #[.int .i64 (pl N), .int .i64 (ph N)] 38)
  by_cases h : 170141183460469231731687303715884105728 ≤ N
  · have hn : ¬ ph N ≥ 0 := by have := hsg.2 h; omega
    have hneg := fun W => pneg_any N hN W
    have htx := fun W => textP ((340282366920938463463374607431768211456 - N) % 340282366920938463463374607431768211456) B (Nat.mod_lt _ (by omega)) hB0 hB W
    have e : signedL B N = 45 :: baseL B ((340282366920938463463374607431768211456 - N) % 340282366920938463463374607431768211456) := by unfold signedL; rw [if_pos h]
    rw [e]
    have hlen := baseL_size B ((340282366920938463463374607431768211456 - N) % 340282366920938463463374607431768211456) hB0 (Nat.mod_lt _ (by omega))
    obtain ⟨R, hR⟩ : ∃ R, (340282366920938463463374607431768211456 - N) % 340282366920938463463374607431768211456 = R := ⟨_, rfl⟩
    rw [hR] at hneg htx hlen ⊢
    have hcat : (⟨(45 :: baseL B R).toArray⟩ : ByteArray) = (⟨#[45]⟩ : ByteArray) ++ ⟨(baseL B R).toArray⟩ := str_ext (by simp)
    rw [hcat]
    obtain ⟨S, hS⟩ : ∃ S : ByteArray, ⟨(baseL B R).toArray⟩ = S := ⟨_, rfl⟩
    rw [hS] at htx hlen ⊢
    unfold two at hneg ⊢
    clear hR e h hsg hcat hS
    go_enter Tryz.func232, Tryz.ntmps232
    go_wp2_with fail
    refine (hrt _).mono ?_
    rintro _ _ ⟨rfl, rfl⟩
    go_wp2_with fail
    refine (hneg _).mono ?_
    rintro _ w1 ⟨rfl, t1⟩
    have tw := tw.trans t1 (by simp)
    go_wp2_with fail
    refine (htx _).mono ?_
    rintro _ w2 ⟨rfl, t2⟩
    have tw := tw.trans t2 (by simp)
    go_wp2_with fail
    go_ret
    exact ⟨rfl, tw⟩
  · have hn : ph N ≥ 0 := by have := fun h' => h (hsg.1 h'); omega
    have htx := fun W => textP N B hN hB0 hB W
    have e : signedL B N = baseL B N := by unfold signedL; rw [if_neg h]
    rw [e]
    unfold two
    clear e h hsg hrt
    go_enter Tryz.func232, Tryz.ntmps232
    go_wp2_with fail
    refine (htx _).mono ?_
    rintro _ w2 ⟨rfl, t2⟩
    have tw := tw.trans t2 (by simp)
    go_wp2_with fail
    go_ret
    exact ⟨rfl, by first | exact tw | exact (Touch.refl _ _).alloc _⟩
end Go.Proofs.YtkbchpaofmlhgaaGreatDoor
