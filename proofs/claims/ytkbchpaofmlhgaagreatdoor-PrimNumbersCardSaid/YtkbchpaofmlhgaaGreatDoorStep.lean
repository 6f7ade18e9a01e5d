/- rhytonref02.UDiv, rhytonref03.right and Step. -/
import Derived.Test.YtkbchpaofmlhgaaGreatDoorLong2
namespace Go.Proofs.YtkbchpaofmlhgaaGreatDoor
open Go.RowKit

set_option maxRecDepth 100000 in
set_option maxHeartbeats 1600000 in
theorem udiv_any (n B : Nat) (hn : n < 340282366920938463463374607431768211456) (hB0 : 0 < B) (hB : B < 9223372036854775808) (hq : n / B < 18446744073709551616) (w : World) :
    Calls Tryz.prog 29 #[.agg (two n), .int .i64 (B : Int)] w fun e w' => e = .returned (.tuple #[.int .i64 (pl (n % B)), .int .i64 (pl (n / B)), .int .i64 0]) ∧ Touch [] w w' := by
  have hc : cellOf B = (B : Int) := by unfold cellOf; rw [if_pos hB]
  have hl := fun W => long_any n B hn hB0 (by omega) W
  rw [hc] at hl
  have hh := (p_small (n / B) hq).2
  have hB0' : ((B : Int) == 0) = false := beq_eq_false_iff_ne.2 (by omega)
  unfold two at hl ⊢
  rw [hh] at hl
  obtain ⟨r, hr⟩ : ∃ r, pl (n % B) = r := ⟨_, rfl⟩
  obtain ⟨q, hq⟩ : ∃ q, pl (n / B) = q := ⟨_, rfl⟩
  rw [hr, hq] at hl ⊢
  clear hr hq hh hc
  go_enter Tryz.func29, Tryz.ntmps29
  go_wp2_with fail
  refine (hl _).mono ?_
  rintro _ w1 ⟨rfl, t1⟩
  have tw := ((Touch.refl [] w).alloc _).trans t1 (by simp)
  clear t1 hl
  go_upto_region 4 with (fail)
  have bA := Blk.new w1 38 #[.int .i64 q, .int .i64 0]
  have tw := tw.alloc (.cells #[.int .i64 q, .int .i64 0] 38)
  generalize w1.alloc (.cells #[.int .i64 q, .int .i64 0] 38) = wA at *
  have a0 := bA.cell 0
  have a1 := bA.cell 1
  go_wp2_with fail
  go_quiet (fail)
  go_wp2
  go_ret3
  exact ⟨rfl, tw.drewN _⟩

theorem right_any (b : Int) (h0 : 2 ≤ b) (h1 : b ≤ 36) (w : World) : Calls Tryz.prog 48 #[.int .i64 b] w fun e w' => e = .returned (.bool true) ∧ w = w' := by
  go_enter Tryz.func48, Tryz.ntmps48
  go_wp2_with fail
  go_ret
  exact ⟨rfl, rfl⟩

theorem step_law (n B : Nat) (hB0 : 0 < B) : n / B = n / 18446744073709551616 / B * 18446744073709551616 + (n % 18446744073709551616 + 18446744073709551616 * (n / 18446744073709551616 % B)) / B ∧
    n % B = (n % 18446744073709551616 + 18446744073709551616 * (n / 18446744073709551616 % B)) % B := by
  have h1 := Nat.div_add_mod n 18446744073709551616
  have h2 := Nat.div_add_mod (n / 18446744073709551616) B
  generalize n / 18446744073709551616 = H at *
  generalize n % 18446744073709551616 = l at *
  generalize H / B = q at *
  generalize H % B = r at *
  subst h2
  have e : n = l + 18446744073709551616 * r + B * (q * 18446744073709551616) := by
    rw [← h1, Nat.mul_add, Nat.mul_left_comm, Nat.mul_comm q]
    omega
  rw [e, Nat.add_mul_div_left _ _ hB0, Nat.add_mul_mod_self_left]
  exact ⟨Nat.add_comm _ _, rfl⟩

/-- the digits -/
def lettersS : ByteArray := ⟨#[48, 49, 50, 51, 52, 53, 54, 55, 56, 57, 65, 66, 67, 68, 69, 70, 71, 72, 73, 74, 75, 76, 77, 78, 79, 80, 81, 82, 83, 84, 85, 86, 87, 88, 89, 90]⟩
def digC (d : Nat) : UInt8 := lettersS.data.toList.getD d 0
theorem run_letter (d : Nat) (hd : d < 36) (W : World) : (Instr.index 9 (.string lettersS) (.int .i64 (d : Int))).run Tryz.prog W = .ok (.int .u8 (((digC d).toNat : Nat) : Int)) W := by
  have hs : lettersS.size = 36 := by decide
  rw [run_index_string W _ lettersS _ _ (by kernel_rfl)]
  have hlt : d < lettersS.size := by rw [hs]; exact hd
  have hget : lettersS[d]'hlt = digC d := by
    unfold digC
    rw [List.getD_eq_getElem?_getD, List.getElem?_eq_getElem (by simpa [lettersS] using hd)]
    rfl
  simp [hlt, hget]

set_option maxRecDepth 100000 in
set_option maxHeartbeats 1600000 in
theorem step_any (n B : Nat) (hn : n < 340282366920938463463374607431768211456) (hB0 : 2 ≤ B) (hB : B ≤ 36) (w : World) :
    Calls Tryz.prog 64 #[.agg (two n), .int .i64 (B : Int)] w fun e w' => e = .returned (.tuple #[.agg (two (n / B)), .int .u8 (((digC (n % B)).toNat : Nat) : Int)]) ∧ Touch [] w w' := by
  obtain ⟨l1, l2⟩ := step_law n B (by omega)
  have hr1 : n / 18446744073709551616 % B < B := Nat.mod_lt _ (by omega)
  have hH : n / 18446744073709551616 < 18446744073709551616 := by omega
  have hq1 : n / 18446744073709551616 / B < 18446744073709551616 := Nat.lt_of_le_of_lt (Nat.div_le_self _ _) hH
  have u1 := fun W => udiv_any (n / 18446744073709551616) B (by omega) (by omega) (by omega) hq1 W
  obtain ⟨m, hm⟩ : ∃ m, n % 18446744073709551616 + 18446744073709551616 * (n / 18446744073709551616 % B) = m := ⟨_, rfl⟩
  rw [hm] at l1 l2
  have hq2 : m / B < 18446744073709551616 := by
    rw [Nat.div_lt_iff_lt_mul (by omega), ← hm, Nat.mul_comm 18446744073709551616 B]
    have : 18446744073709551616 * (n / 18446744073709551616 % B) + 18446744073709551616 ≤ B * 18446744073709551616 := by
      rw [Nat.mul_comm B, ← Nat.mul_succ]
      exact Nat.mul_le_mul_left _ hr1
    omega
  have hm128 : m < 340282366920938463463374607431768211456 := by
    rw [← hm]
    omega
  have u2 := fun W => udiv_any m B hm128 (by omega) (by omega) hq2 W
  have e1 : pl (n / 18446744073709551616) = ph n ∧ ph (n / 18446744073709551616) = 0 := by
    unfold pl ph
    refine ⟨rfl, ?_⟩
    rw [Nat.div_eq_of_lt hH]
    rfl
  have e2 : pl m = pl n ∧ ph m = pl (n / 18446744073709551616 % B) := by
    unfold pl ph
    constructor
    · congr 1
      omega
    · congr 1
      omega
  have e3 : pl (n / B) = pl (m / B) ∧ ph (n / B) = pl (n / 18446744073709551616 / B) := by
    have key : ∀ g t : Nat, t < 18446744073709551616 → (g * 18446744073709551616 + t) % 18446744073709551616 = t % 18446744073709551616 ∧ (g * 18446744073709551616 + t) / 18446744073709551616 % 18446744073709551616 = g % 18446744073709551616 := fun g t h => by omega
    obtain ⟨f1, f2⟩ := key _ _ hq2
    rw [← l1] at f1 f2
    exact ⟨congrArg cellOf f1, congrArg cellOf f2⟩
  have e4 : pl (m % B) = ((n % B : Nat) : Int) := by
    have : m % B < B := Nat.mod_lt _ (by omega)
    rw [← l2] at this ⊢
    unfold pl cellOf
    rw [Nat.mod_eq_of_lt (by omega), if_pos (by omega)]
  have hlet := run_letter (n % B) (Nat.lt_of_lt_of_le (Nat.mod_lt _ (by omega)) hB)
  have hrt := fun W => right_any (B : Int) (by omega) (by omega) W
  unfold two at u1 u2 ⊢
  rw [e1.1, e1.2] at u1
  rw [e2.1, e2.2, e4] at u2
  rw [e3.1, e3.2]
  obtain ⟨d, hd⟩ : ∃ d, n % B = d := ⟨_, rfl⟩
  rw [hd] at u2 hlet ⊢
  obtain ⟨r1, hr1e⟩ : ∃ r, pl (n / 18446744073709551616 % B) = r := ⟨_, rfl⟩
  obtain ⟨q1, hq1e⟩ : ∃ r, pl (n / 18446744073709551616 / B) = r := ⟨_, rfl⟩
  obtain ⟨q2, hq2e⟩ : ∃ r, pl (m / B) = r := ⟨_, rfl⟩
  rw [hr1e, hq1e] at u1
  rw [hr1e, hq2e] at u2
  rw [hq1e, hq2e]
  obtain ⟨c, hc⟩ : ∃ c : Int, (((digC d).toNat : Nat) : Int) = c := ⟨_, rfl⟩
  rw [hc] at hlet ⊢
  have hBs : Hid (2 ≤ B ∧ B ≤ 36) := ⟨hB0, hB⟩
  clear hc hr1e hq1e hq2e hd e1 e2 e3 e4 l1 l2 hm hm128 hq1 hq2 hr1 hH
  unfold lettersS at hlet
  go_enter Tryz.func64, Tryz.ntmps64
  go_wp2_with fail
  refine (hrt _).mono ?_
  rintro _ _ ⟨rfl, rfl⟩
  go_wp2_with fail
  refine (u1 _).mono ?_
  rintro _ w1 ⟨rfl, t1⟩
  have bP := (Blk.new w 38 #[.int .i64 (pl n), .int .i64 (ph n)]).alloc (.cells #[.int .i64 0, .int .i64 0] 38)
  have bR := Blk.new_at (n := w.heap.size + 1) (w.alloc (.cells #[.int .i64 (pl n), .int .i64 (ph n)] 38)) (by simp) 38 #[.int .i64 0, .int .i64 0]
  have bP := bP.touch t1 (by simp)
  have bR := bR.touch t1 (by simp)
  have tw := (((Touch.refl [] w).alloc _).alloc _).trans t1 (by simp)
  clear t1 u1
  have p0 := bP.cell 0
  go_wp2_with fail
  refine (u2 _).mono ?_
  rintro _ w2 ⟨rfl, t2⟩
  have bR := bR.touch t2 (by simp)
  have tw := tw.trans t2 (by simp)
  clear t2 u2 bP p0
  have r0 := bR.cell 0
  have r1 := bR.cell 1
  have g0 := bR.frozen 0
  have g1 := bR.frozen 1
  go_upto_region 5 with (fail)
  go_region
  all_goals go_wp2_with fail
  all_goals
    obtain ⟨z0, z1⟩ := two_back bR (.int .i64 q2) (.int .i64 q1)
    refine bodyPost_ret (by simp [results, Tryz.results64, go_sem, z0, z1]; try rfl) rfl ⟨rfl, ?_⟩
    exact ((tw.setCell (.inr (by simp)) _).setCell (.inr (by simp)) _).drew

end Go.Proofs.YtkbchpaofmlhgaaGreatDoor
