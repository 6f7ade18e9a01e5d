/- rhytonref02.long: the walk. (Printed by wip/long2.py.) -/
import Derived.Test.YtkbchpaofmlhgaaGreatDoorLong
namespace Go.Proofs.YtkbchpaofmlhgaaGreatDoor
open Go.RowKit

theorem div_next {M B Q L b : Nat} (hB : 0 < B) (hQ : Q = M / B) (hL : L = M % B) :
    (2 * L + b < B → (2 * M + b) / B = 2 * Q ∧ (2 * M + b) % B = 2 * L + b) ∧ (B ≤ 2 * L + b → b ≤ 1 → (2 * M + b) / B = 2 * Q + 1 ∧ (2 * M + b) % B = 2 * L + b - B) := by
  have h1 := Nat.div_add_mod M B
  have h2 := Nat.mod_lt M hB
  rw [← hQ, ← hL] at h1
  rw [← hL] at h2
  refine ⟨fun h => (Nat.div_mod_unique hB).2 ⟨?_, h⟩, fun h hb => (Nat.div_mod_unique hB).2 ⟨?_, by omega⟩⟩
  · rw [Nat.mul_left_comm]; omega
  · rw [Nat.mul_add, Nat.mul_left_comm]; omega

set_option maxRecDepth 100000 in
set_option maxHeartbeats 6400000 in
theorem long_any (n B : Nat) (hn : n < 340282366920938463463374607431768211456) (hB0 : 0 < B) (hB : B < 18446744073709551616) (w : World) :
    Calls Tryz.prog 56 #[.agg (two n), .int .i64 (cellOf B)] w fun e w' => e = .returned (.tuple #[.int .i64 (pl (n % B)), .agg (two (n / B))]) ∧ Touch [] w w' := by
  obtain ⟨hpB, hhB⟩ := p_small B hB
  have hless := fun L (hL : L < 340282366920938463463374607431768211456) W => less_p L B hL (by omega) W
  have hneg := fun W => neg_p B (by omega) (340282366920938463463374607431768211456 - B) (by omega) W
  have hadd := fun a r b (ha : a < 340282366920938463463374607431768211456) (hb : b < 340282366920938463463374607431768211456) hr W => add_p a b ha hb r hr W
  have hone := fun a r (ha : a < 340282366920938463463374607431768211456) hr W => add_p a 1 ha (by omega) r hr W
  rw [show pl 1 = 1 by decide, show ph 1 = 0 by decide] at hone
  rw [hpB, hhB] at hless hneg
  unfold two
  go_enter Tryz.func56, Tryz.ntmps56
  go_wp2_with fail
  go_loopw [8] (fun i wr => ∃ (k P L Q : Nat), k ≤ 128 ∧ i = .int .i64 k ∧ P = n * 2 ^ k % 340282366920938463463374607431768211456 ∧ L = n / 2 ^ (128 - k) % B ∧ Q = n / 2 ^ (128 - k) / B ∧ LB w w.heap.size P L Q wr) (fun i _ => 128 - (intOf i).toNat)
  case atStart =>
    have e0 : n / 2 ^ 128 = 0 := Nat.div_eq_of_lt hn
    refine ⟨0, n, 0, 0, by omega, rfl, by simp; omega, by rw [Nat.sub_zero, e0, Nat.zero_mod], by rw [Nat.sub_zero, e0, Nat.zero_div], ⟨?_, ?_, ?_, ?_, ?_, Nat.le_refl _⟩⟩
    · exact (((Blk.new w _ _).alloc _).alloc _).alloc _
    · exact ((Blk.new_at (n := w.heap.size + 1) (w.alloc _) (by simp) _ _).alloc _).alloc _
    · exact (Blk.new_at (n := w.heap.size + 2) ((w.alloc _).alloc _) (by simp) _ _).alloc _
    · exact Blk.new_at (n := w.heap.size + 3) (((w.alloc _).alloc _).alloc _) (by simp) _ _
    · exact ((((Touch.refl [] w).alloc _).alloc _).alloc _).alloc _
  case round =>
    obtain ⟨k, P, L, Q, hk, rfl, hP, hL, hQ, hb⟩ := hrel
    by_cases hlt : k < 128
    · have hstep := long_step n k hlt
      have hMlt : n / 2 ^ (128 - (k + 1)) ≤ n := Nat.div_le_self _ _
      have hP2 : n * 2 ^ (k + 1) % 340282366920938463463374607431768211456 = (P + P) % 340282366920938463463374607431768211456 := by
        rw [Nat.pow_succ, ← Nat.mul_assoc, hP, ← Nat.mul_two, Nat.mod_mul_mod]
      rw [← hP] at hstep
      obtain ⟨M, hM⟩ : ∃ M, n / 2 ^ (128 - k) = M := ⟨_, rfl⟩
      obtain ⟨M2, hM2⟩ : ∃ M, n / 2 ^ (128 - (k + 1)) = M := ⟨_, rfl⟩
      rw [hM] at hstep hL hQ
      rw [hM2] at hstep hMlt
      have hPlt : P < 340282366920938463463374607431768211456 := by rw [hP]; exact Nat.mod_lt _ (by omega)
      obtain ⟨bit, hbit⟩ : ∃ bit : Nat, (if 170141183460469231731687303715884105728 ≤ P then 1 else 0) = bit := ⟨_, rfl⟩
      rw [hbit] at hstep
      have hbit1 : bit ≤ 1 := by rw [← hbit]; split <;> omega
      have hLB : L < B := by rw [hL]; exact Nat.mod_lt _ hB0
      have hQM : Q ≤ M := by rw [hQ]; exact Nat.div_le_self _ _
      have hdiv := div_next (b := bit) hB0 hQ hL
      rw [← hstep] at hdiv
      have HD := Lib.hid hdiv
      have HP2 := Lib.hid hP2
      have HM2 := Lib.hid hM2
      clear hP hL hQ hM hM2 hP2 hdiv
      have hsg := ph_neg P hPlt
      have HB := Lib.hid hbit
      have HS := Lib.hid hstep
      have hQ2 : Q + Q < 340282366920938463463374607431768211456 := by omega
      have hQ3 : Q + Q + bit ≤ M2 := by omega
      obtain ⟨p0, p1, l0, l1, q0, q1, fp0, fp1, fl0, fl1, fq0, fq1⟩ := hb.cells
      go_wp2_with fail
      refine (twice_p L (by omega) (L + L) (by omega) _).mono ?_
      rintro _ w1 ⟨rfl, t1⟩
      clear p0 p1 l0 l1 q0 q1 fp0 fp1 fl0 fl1 fq0 fq1
      have hb := hb.quiet t1
      clear t1
      obtain ⟨p0, p1, l0, l1, q0, q1, fp0, fp1, fl0, fl1, fq0, fq1⟩ := hb.cells
      go_upto_region 7 with (fail)
      clear p0 p1 l0 l1 q0 q1 fp0 fp1 fl0 fl1 fq0 fq1
      have hb := hb.setL (L + L)
      generalize (w1.setCell ⟨w.heap.size + 2, 0, none⟩ (.int .i64 (pl (L + L)))).setCell ⟨w.heap.size + 2, 1, none⟩ (.int .i64 (ph (L + L))) = w2 at *
      obtain ⟨p0, p1, l0, l1, q0, q1, fp0, fp1, fl0, fl1, fq0, fq1⟩ := hb.cells
      obtain ⟨L2, hL2⟩ : ∃ L2, L + L + bit = L2 := ⟨_, rfl⟩
      have hL2lt : L2 < 36893488147419103232 := by omega
      have hcase : (170141183460469231731687303715884105728 ≤ P ∧ bit = 1) ∨ (¬ 170141183460469231731687303715884105728 ≤ P ∧ bit = 0) := by
        have := HB.out
        split at this
        · exact .inl ⟨by assumption, this.symm⟩
        · exact .inr ⟨by assumption, this.symm⟩
      rcases hcase with ⟨hge, rfl⟩ | ⟨hge, rfl⟩
      case' inl =>
        have hng : ph P < 0 := hsg.2 hge
        go_wp2_with fail
        refine (hone (L + L) L2 (by omega) (by omega) _).mono ?_
        rintro _ w3 ⟨rfl, t1⟩
        clear p0 p1 l0 l1 q0 q1 fp0 fp1 fl0 fl1 fq0 fq1
        have hb := hb.quiet t1
        clear t1
        obtain ⟨p0, p1, l0, l1, q0, q1, fp0, fp1, fl0, fl1, fq0, fq1⟩ := hb.cells
        go_upto_region 9 with (fail)
        clear p0 p1 l0 l1 q0 q1 fp0 fp1 fl0 fl1 fq0 fq1
        have hb := hb.setL L2
        generalize (w3.setCell ⟨w.heap.size + 2, 0, none⟩ (.int .i64 (pl L2))).setCell ⟨w.heap.size + 2, 1, none⟩ (.int .i64 (ph L2)) = w4 at *
        obtain ⟨p0, p1, l0, l1, q0, q1, fp0, fp1, fl0, fl1, fq0, fq1⟩ := hb.cells
      case' inr =>
        have hng : ¬ ph P < 0 := fun h => hge (hsg.1 h)
        rw [Nat.add_zero] at hL2
        go_upto_region 9 with (fail)
        clear p0 p1 l0 l1 q0 q1 fp0 fp1 fl0 fl1 fq0 fq1
        rw [hL2] at hb
        obtain ⟨p0, p1, l0, l1, q0, q1, fp0, fp1, fl0, fl1, fq0, fq1⟩ := hb.cells
      all_goals
        clear hng hsg hge
        obtain ⟨P2, hPP⟩ : ∃ P2, (P + P) % 340282366920938463463374607431768211456 = P2 := ⟨_, rfl⟩
        have HP3 := Lib.hid hPP
        have HD2 := Lib.hid hL2
        have h2p := twice_p P hPlt P2 hPP.symm
        clear hPP hL2
        go_wp2_with fail
        refine (h2p _).mono ?_
        rintro _ w5 ⟨rfl, t1⟩
        clear p0 p1 l0 l1 q0 q1 fp0 fp1 fl0 fl1 fq0 fq1
        have hb := hb.quiet t1
        clear t1
        obtain ⟨p0, p1, l0, l1, q0, q1, fp0, fp1, fl0, fl1, fq0, fq1⟩ := hb.cells
        go_upto_region 10 with (fail)
        clear p0 p1 l0 l1 q0 q1 fp0 fp1 fl0 fl1 fq0 fq1
        have hb := hb.setP P2
        generalize (w5.setCell ⟨w.heap.size, 0, none⟩ (.int .i64 (pl P2))).setCell ⟨w.heap.size, 1, none⟩ (.int .i64 (ph P2)) = w6 at *
        obtain ⟨p0, p1, l0, l1, q0, q1, fp0, fp1, fl0, fl1, fq0, fq1⟩ := hb.cells
        clear h2p
        go_wp2_with fail
        refine (twice_p Q (by omega) (Q + Q) (by omega) _).mono ?_
        rintro _ w7 ⟨rfl, t1⟩
        clear p0 p1 l0 l1 q0 q1 fp0 fp1 fl0 fl1 fq0 fq1
        have hb := hb.quiet t1
        clear t1
        obtain ⟨p0, p1, l0, l1, q0, q1, fp0, fp1, fl0, fl1, fq0, fq1⟩ := hb.cells
        go_upto_region 11 with (fail)
        clear p0 p1 l0 l1 q0 q1 fp0 fp1 fl0 fl1 fq0 fq1
        have hb := hb.setQ (Q + Q)
        generalize (w7.setCell ⟨w.heap.size + 3, 0, none⟩ (.int .i64 (pl (Q + Q)))).setCell ⟨w.heap.size + 3, 1, none⟩ (.int .i64 (ph (Q + Q))) = w8 at *
        obtain ⟨p0, p1, l0, l1, q0, q1, fp0, fp1, fl0, fl1, fq0, fq1⟩ := hb.cells
        go_wp2_with fail
        refine (hless L2 (by omega) _).mono ?_
        rintro _ w9 ⟨rfl, t1⟩
        clear p0 p1 l0 l1 q0 q1 fp0 fp1 fl0 fl1 fq0 fq1
        have hb := hb.quiet t1
        clear t1
        obtain ⟨p0, p1, l0, l1, q0, q1, fp0, fp1, fl0, fl1, fq0, fq1⟩ := hb.cells
        by_cases hlb : L2 < B
        · rw [decide_eq_true hlb]
          go_wp2_with fail
          obtain ⟨d1, d2⟩ := HD.out.1 (by have := HD2.out; omega)
          refine ⟨⟨k + 1, P2, L2, Q + Q, by omega, rfl, ?_, ?_, ?_, hb⟩, by simp only [intOf]; omega⟩
          · rw [HP2.out, HP3.out]
          · rw [HM2.out, d2]; have := HD2.out; omega
          · rw [HM2.out, d1]; omega
        · rw [decide_eq_false hlb]
          obtain ⟨d1, d2⟩ := HD.out.2 (by have := HD2.out; omega) hbit1
          have hrest := hadd L2 (L2 - B) (340282366920938463463374607431768211456 - B) (by omega) (by omega) (by omega)
          go_upto_region 12 with (fail)
          clear p0 p1 l0 l1 q0 q1 fp0 fp1 fl0 fl1 fq0 fq1
          have hb := hb.quiet (Touch.refl [] w9).drew
          obtain ⟨p0, p1, l0, l1, q0, q1, fp0, fp1, fl0, fl1, fq0, fq1⟩ := hb.cells
          go_region_with (first | (go_at_call 19; (refine (hneg _).mono ?_); rintro _ w10 ⟨rfl, t10⟩; have hb := hb.quiet t10; obtain ⟨p0, p1, l0, l1, q0, q1, fp0, fp1, fl0, fl1, fq0, fq1⟩ := hb.cells) | (go_at_call 28; (refine (hrest _).mono ?_); rintro _ w11 ⟨rfl, t11⟩; have hb := hb.quiet t11; obtain ⟨p0, p1, l0, l1, q0, q1, fp0, fp1, fl0, fl1, fq0, fq1⟩ := hb.cells))
          all_goals
            clear p0 p1 l0 l1 q0 q1 fp0 fp1 fl0 fl1 fq0 fq1
            have hb := hb.setL (L2 - B)
            generalize (w11.setCell ⟨w.heap.size + 2, 0, none⟩ (.int .i64 (pl (L2 - B)))).setCell ⟨w.heap.size + 2, 1, none⟩ (.int .i64 (ph (L2 - B))) = w12 at *
            obtain ⟨p0, p1, l0, l1, q0, q1, fp0, fp1, fl0, fl1, fq0, fq1⟩ := hb.cells
            go_wp2_with fail
            refine (hone (Q + Q) (Q + Q + 1) (by omega) (by omega) _).mono ?_
            rintro _ w13 ⟨rfl, t1⟩
            clear p0 p1 l0 l1 q0 q1 fp0 fp1 fl0 fl1 fq0 fq1
            have hb := hb.quiet t1
            clear t1
            obtain ⟨p0, p1, l0, l1, q0, q1, fp0, fp1, fl0, fl1, fq0, fq1⟩ := hb.cells
            go_upto_region 5 with (fail)
            clear p0 p1 l0 l1 q0 q1 fp0 fp1 fl0 fl1 fq0 fq1
            have hb := hb.setQ (Q + Q + 1)
            generalize (w13.setCell ⟨w.heap.size + 3, 0, none⟩ (.int .i64 (pl (Q + Q + 1)))).setCell ⟨w.heap.size + 3, 1, none⟩ (.int .i64 (ph (Q + Q + 1))) = w14 at *
            obtain ⟨p0, p1, l0, l1, q0, q1, fp0, fp1, fl0, fl1, fq0, fq1⟩ := hb.cells
            go_wp2_with fail
            refine ⟨⟨k + 1, P2, L2 - B, Q + Q + 1, by omega, rfl, ?_, ?_, ?_, hb⟩, by simp only [intOf]; omega⟩
            · rw [HP2.out, HP3.out]
            · rw [HM2.out, d2]; have := HD2.out; omega
            · rw [HM2.out, d1]; omega
    · obtain rfl : k = 128 := by omega
      rw [Nat.sub_self, Nat.pow_zero, Nat.div_one] at hL hQ
      subst hL
      subst hQ
      have bR := hb.r
      have r0 := bR.cell 0
      have r1 := bR.cell 1
      have g0 := bR.frozen 0
      have g1 := bR.frozen 1
      obtain ⟨p0, p1, l0, l1, q0, q1, fp0, fp1, fl0, fl1, fq0, fq1⟩ := hb.cells
      go_upto_region 14 with (fail)
      go_region
      go_wp2_with fail
      obtain ⟨z2, z3⟩ := two_back bR (.int .i64 (pl (n / B))) (.int .i64 (ph (n / B)))
      refine bodyPost_ret (by simp [results, Tryz.results56, go_sem, z2, z3]; try rfl) rfl ⟨rfl, ?_⟩
      exact ((hb.t.setCell (.inr (by simp)) _).setCell (.inr (by simp)) _).drew
end Go.Proofs.YtkbchpaofmlhgaaGreatDoor
