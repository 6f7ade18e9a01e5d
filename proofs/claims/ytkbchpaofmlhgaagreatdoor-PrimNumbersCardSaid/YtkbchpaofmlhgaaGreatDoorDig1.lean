/- Digits of a number of one cell: bits.Div64, pair.UDiv, digit.Step. -/
import Derived.Test.YtkbchpaofmlhgaaGreatDoorOps1
import Derived.Test.YtkbchpaofmlhgaaGreatDoorStep
namespace Go.Proofs.YtkbchpaofmlhgaaGreatDoor
open Go.RowKit

set_option maxHeartbeats 1000000 in
theorem div64_small (n B : Nat) (hn : n < 18446744073709551616) (hB0 : 0 < B) (hB : B < 9223372036854775808) (w : World) :
    Calls Tryz.prog 218 #[.int .u64 0, .int .u64 n, .int .u64 B] w fun e w' => e = .returned (.tuple #[.int .u64 (n / B : Nat), .int .u64 (n % B : Nat)]) ∧ Touch [] w w' := by
  have g1 : ¬ (B : Int) ≤ 0 := by omega
  have g2 : ((B : Int) == 0) = false := beq_eq_false_iff_ne.2 (by omega)
  have q1 : (n : Int).tdiv B = (n / B : Nat) := Int.ofNat_tdiv n B
  have q2 : (n : Int).tmod B = (n % B : Nat) := by rw [Int.ofNat_tmod]
  have wq : ∀ q : Nat, q < 18446744073709551616 → IntKind.u64.wrap (q : Int) = q := fun q h => by rw [IntKind.wrap_u64]; omega
  have w1 := wq (n / B) (Nat.lt_of_le_of_lt (Nat.div_le_self _ _) hn)
  have w2 := wq (n % B) (Nat.lt_of_le_of_lt (Nat.mod_le _ _) hn)
  obtain ⟨q, hq⟩ : ∃ q : Nat, n / B = q := ⟨_, rfl⟩
  obtain ⟨r, hr⟩ : ∃ r : Nat, n % B = r := ⟨_, rfl⟩
  rw [hq] at q1 w1 ⊢
  rw [hr] at q2 w2 ⊢
  clear wq hq hr
  go_enter Tryz.func218, Tryz.ntmps218
  go_wp2_with fail
  go_quiet (fail)
  go_wp2
  go_ret2
  exact ⟨rfl, ((Touch.refl _ _).drewN _)⟩
theorem u64_cell (n : Nat) (hn : n < 18446744073709551616) : IntKind.u64.wrap (cellOf n) = n := by rw [IntKind.wrap_u64]; unfold cellOf; split <;> omega
theorem i64_cell (n : Nat) (hn : n < 18446744073709551616) : IntKind.i64.wrap (n : Int) = cellOf n := by rw [IntKind.wrap_i64]; unfold cellOf; split <;> omega
theorem small_cell (n : Nat) (hn : n < 9223372036854775808) : cellOf n = n := by unfold cellOf; rw [if_pos hn]
set_option maxHeartbeats 1000000 in
theorem udivS (n B : Nat) (hn : n < 18446744073709551616) (hB0 : 0 < B) (hB : B < 9223372036854775808) (w : World) :
    Calls Tryz.prog 129 #[.agg #[.int .i64 (cellOf n), .int .i64 0], .int .i64 (B : Int)] w fun e w' => e = .returned (.tuple #[.int .i64 (cellOf (n % B)), .int .i64 (cellOf (n / B)), .int .i64 0]) ∧ Touch [] w w' := by
  have hD := fun W => div64_small n B hn hB0 hB W
  have g2 : ((B : Int) == 0) = false := beq_eq_false_iff_ne.2 (by omega)
  have e1 := u64_cell n hn
  have e2 : IntKind.u64.wrap (B : Int) = B := by rw [IntKind.wrap_u64]; omega
  have e3 := i64_cell (n / B) (Nat.lt_of_le_of_lt (Nat.div_le_self _ _) hn)
  have e4 := i64_cell (n % B) (Nat.lt_of_le_of_lt (Nat.mod_le _ _) hn)
  have g3 : ¬ (0 : Int) ≥ B := by omega
  obtain ⟨c, hc⟩ : ∃ c : Int, cellOf n = c := ⟨_, rfl⟩
  obtain ⟨q, hq⟩ : ∃ q : Nat, n / B = q := ⟨_, rfl⟩
  obtain ⟨r, hr⟩ : ∃ r : Nat, n % B = r := ⟨_, rfl⟩
  rw [hq] at e3 hD ⊢
  rw [hr] at e4 hD ⊢
  rw [hc] at e1 ⊢
  clear hc hq hr
  go_enter Tryz.func129, Tryz.ntmps129
  go_wp2_with fail
  refine (hD _).mono ?_
  rintro _ w1 ⟨rfl, t1⟩
  clear hD
  go_wp2_with fail
  go_ret3
  exact ⟨rfl, ((Touch.refl [] w).alloc _).trans t1 (by simp)⟩
theorem char_any (d : Nat) (hd : d < 36) (w : World) : Calls Tryz.prog 251 #[.int .i64 (d : Int)] w fun e w' => e = .returned (.int .u8 (((digC d).toNat : Nat) : Int)) ∧ w = w' := by
  have hl := run_letter d hd w
  have g1 : ¬ (d : Int) < 0 := by omega
  have g2 : ¬ (d : Int) ≥ 36 := by omega
  unfold lettersS at hl
  go_enter Tryz.func251, Tryz.ntmps251
  go_wp2_with fail
  go_ret
  exact ⟨rfl, rfl⟩
theorem rightD_any (b : Int) (h0 : 2 ≤ b) (h1 : b ≤ 36) (w : World) : Calls Tryz.prog 249 #[.int .i64 b] w fun e w' => e = .returned (.bool true) ∧ w = w' := by
  go_enter Tryz.func249, Tryz.ntmps249
  go_wp2_with fail
  go_ret
  exact ⟨rfl, rfl⟩
set_option maxRecDepth 100000 in
set_option maxHeartbeats 1000000 in
theorem stepS (n B : Nat) (hn : n < 18446744073709551616) (hB0 : 2 ≤ B) (hB : B ≤ 36) (w : World) :
    Calls Tryz.prog 234 #[.agg #[.int .i64 (cellOf n), .int .i64 0], .int .i64 (B : Int)] w fun e w' => e = .returned (.tuple #[.agg #[.int .i64 (cellOf (n / B)), .int .i64 0], .int .u8 (((digC (n % B)).toNat : Nat) : Int)]) ∧ Touch [] w w' := by
  have hr := fun W => rightD_any (B : Int) (by omega) (by omega) W
  have h1 := fun W => udivS 0 B (by omega) (by omega) (by omega) W
  have h2 := fun W => udivS n B hn (by omega) (by omega) W
  have hm : n % B < B := Nat.mod_lt _ (by omega)
  have hch := fun W => char_any (n % B) (by omega) W
  rw [Nat.zero_mod, Nat.zero_div, small_cell 0 (by decide)] at h1
  rw [small_cell (n % B) (by omega)] at h2
  obtain ⟨c, hc⟩ : ∃ c : Int, cellOf n = c := ⟨_, rfl⟩
  obtain ⟨q, hq⟩ : ∃ q : Int, cellOf (n / B) = q := ⟨_, rfl⟩
  obtain ⟨r, hrr⟩ : ∃ r : Nat, n % B = r := ⟨_, rfl⟩
  rw [hc] at h2 ⊢
  rw [hq] at h2 ⊢
  rw [hrr] at h2 hch ⊢
  clear hc hq hrr hm
  go_enter Tryz.func234, Tryz.ntmps234
  go_wp2_with fail
  refine (hr _).mono ?_
  rintro _ _ ⟨rfl, rfl⟩
  clear hr
  have bP := (Blk.new w 38 #[.int .i64 c, .int .i64 0]).alloc (.cells #[.int .i64 0, .int .i64 0] 38)
  have bR := Blk.new_at (n := w.heap.size + 1) (w.alloc (.cells #[.int .i64 c, .int .i64 0] 38)) (by simp) 38 #[.int .i64 0, .int .i64 0]
  have tt := ((Touch.refl [] w).alloc (.cells #[.int .i64 c, .int .i64 0] 38)).alloc (.cells #[.int .i64 0, .int .i64 0] 38)
  go_wp2_with fail
  refine (h1 _).mono ?_
  rintro _ w1 ⟨rfl, t1⟩
  have bP := bP.touch t1 (by simp)
  have bR := bR.touch t1 (by simp)
  have tw := tt.trans t1 (by simp)
  clear t1 h1 tt
  have p0 := bP.cell 0
  go_wp2_with fail
  refine (h2 _).mono ?_
  rintro _ w2 ⟨rfl, t2⟩
  have bR := bR.touch t2 (by simp)
  have tw := tw.trans t2 (by simp)
  clear t2 h2 bP p0
  have r0 := bR.cell 0
  have r1 := bR.cell 1
  have g0 := bR.frozen 0
  have g1 := bR.frozen 1
  go_wp2_with fail
  refine (hch _).mono ?_
  rintro _ _ ⟨rfl, rfl⟩
  go_wp2_with fail
  obtain ⟨z0, z1⟩ := two_back bR (.int .i64 q) (.int .i64 0)
  refine bodyPost_ret (by simp [results, Tryz.results234, go_sem, z0, z1]; try rfl) rfl ⟨rfl, ?_⟩
  exact (tw.setCell (.inr (by simp)) _).setCell (.inr (by simp)) _
end Go.Proofs.YtkbchpaofmlhgaaGreatDoor
