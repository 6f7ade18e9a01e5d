/- rhytonref02.UMul: the product of two cells, bit by bit. -/
import Derived.Test.YtibifcchmccknaaDoorLong2
namespace Go.Proofs.YtibifcchmccknaaDoor
open Go.RowKit

theorem bits_wrap64 (f : Int) : IntKind.u64.wrap f = (bitsOf f : Int) := by rw [IntKind.wrap_u64, bitsOf_cast]
theorem bits_id (a : Nat) (h : a < 18446744073709551616) : pl a = cellOf a ∧ ph a = 0 := p_small a h
theorem cell_small (a : Nat) (h : a < 18446744073709551616) : a < 18446744073709551616 ∧ cellOf a = pl a := ⟨h, (p_small a h).1.symm⟩

theorem mul_step (a b j x : Nat) (hx : a / 2 ^ j % 2 = x) : a / 2 ^ j * b = a / 2 ^ (j + 1) * b + a / 2 ^ (j + 1) * b + x * b := by
  have h : a / 2 ^ j = 2 * (a / 2 ^ (j + 1)) + x := by
    rw [Nat.pow_succ, ← Nat.div_div_eq_div_mul, ← hx]
    omega
  rw [h, Nat.add_mul, Nat.two_mul, Nat.add_mul]
theorem mul_lt128 (x y : Nat) (hx : x < 18446744073709551616) (hy : y < 18446744073709551616) : x * y < 340282366920938463463374607431768211456 :=
  Nat.lt_of_le_of_lt (Nat.mul_le_mul (Nat.le_sub_one_of_lt hx) (Nat.le_sub_one_of_lt hy)) (by decide)

set_option maxRecDepth 100000 in
set_option maxHeartbeats 3200000 in
theorem umul_any (a b : Nat) (ha : a < 18446744073709551616) (hb : b < 18446744073709551616) (w : World) :
    Calls Tryd.prog 66 #[.int .i64 (pl a), .int .i64 (pl b)] w fun e w' => e = .returned (.agg (two (a * b))) ∧ Touch [] w w' := by
  have hcv : IntKind.u64.wrap (pl a) = (a : Int) := by rw [(p_small a ha).1, bits_wrap64, bits_cell a ha]
  have htw := fun x r (hx : x < 340282366920938463463374607431768211456) hr W => twice_p x hx r hr W
  have hadd := fun x r (hx : x < 340282366920938463463374607431768211456) hr W => add_p x b hx (by omega) r hr W
  rw [(p_small b hb).2] at hadd
  unfold two
  go_enter Tryd.func66, Tryd.ntmps66
  go_upto_region 3 with (fail)
  have bR := (Blk.new w 57 #[.int .i64 0, .int .i64 0]).alloc (.cells #[.int .i64 0, .int .i64 0] 57)
  have bP := Blk.new_at (n := w.heap.size + 1) (w.alloc (.cells #[.int .i64 0, .int .i64 0] 57)) (by simp) 57 #[.int .i64 0, .int .i64 0]
  have tw := ((Touch.refl [] w).alloc (.cells #[.int .i64 0, .int .i64 0] 57)).alloc (.cells #[.int .i64 0, .int .i64 0] 57)
  generalize (w.alloc (.cells #[.int .i64 0, .int .i64 0] 57)).alloc (.cells #[.int .i64 0, .int .i64 0] 57) = wA at *
  go_wp2_with fail
  go_loopw [7] (fun i wr => ∃ (j : Nat), j ≤ 64 ∧ i = .int .i64 ((j : Int) - 1) ∧ Blk wr w.heap.size 57 #[.int .i64 0, .int .i64 0] ∧ Blk wr (w.heap.size + 1) 57 (two (a / 2 ^ j * b)) ∧ Touch [] w wr) (fun i _ => (intOf i + 1).toNat)
  case atStart =>
    refine ⟨64, by omega, rfl, bR, ?_, tw⟩
    rw [Nat.div_eq_of_lt (by simpa using ha), Nat.zero_mul]
    exact bP
  case round =>
    obtain ⟨j, hj, rfl, bR, bP, tw⟩ := hrel
    have p0 := bP.cell 0
    have p1 := bP.cell 1
    have fp0 := bP.frozen 0
    have fp1 := bP.frozen 1
    rcases j with _ | j
    · have r0 := bR.cell 0
      have r1 := bR.cell 1
      have fr0 := bR.frozen 0
      have fr1 := bR.frozen 1
      rw [Nat.pow_zero, Nat.div_one] at p0 p1
      go_wp2_with fail
      obtain ⟨z0, z1⟩ := two_back bR (.int .i64 (pl (a * b))) (.int .i64 (ph (a * b)))
      refine bodyPost_ret (by simp [results, Tryd.results66, go_sem, z0, z1]; try rfl) rfl ⟨rfl, ?_⟩
      exact (tw.setCell (.inr (by simp)) _).setCell (.inr (by simp)) _
    · have hj63 : j ≤ 63 := by omega
      have e1 : ((j + 1 : Nat) : Int) - 1 = j := by omega
      rw [e1]
      obtain ⟨x, hx⟩ : ∃ x, a / 2 ^ j % 2 = x := ⟨_, rfl⟩
      have hst := mul_step a b j x hx
      have hx1 : x ≤ 1 := by omega
      have hshr : ((a : Int) / 2 ^ j).tmod 2 = (x : Int) := by
        rw [← hx]
        exact (Int.tmod_eq_emod_of_nonneg (Int.ediv_nonneg (by omega) (Int.le_of_lt (Int.pow_pos (by omega))))).trans (by simp)
      have hlt : a / 2 ^ j * b < 340282366920938463463374607431768211456 := mul_lt128 _ _ (Nat.lt_of_le_of_lt (Nat.div_le_self _ _) ha) hb
      obtain ⟨O, hO⟩ : ∃ O, a / 2 ^ (j + 1) * b = O := ⟨_, rfl⟩
      obtain ⟨O2, hO2⟩ : ∃ O, a / 2 ^ j * b = O := ⟨_, rfl⟩
      rw [hO] at p0 p1 hst bP
      rw [hO2] at hst hlt
      have HX := Lib.hid hx
      have HO := Lib.hid hO
      have HO2 := Lib.hid hO2
      clear hx hO hO2 e1
      have hO128 : O < 340282366920938463463374607431768211456 := by omega
      go_wp2_with fail
      refine (htw O (O + O) hO128 (by omega) _).mono ?_
      rintro _ w1 ⟨rfl, t1⟩
      clear p0 p1 fp0 fp1
      have bR := bR.touch t1 (by simp)
      have bP := bP.touch t1 (by simp)
      have tw := tw.trans t1 (by simp)
      clear t1
      have fp0 := bP.frozen 0
      have fp1 := bP.frozen 1
      have p0 := bP.cell 0
      have p1 := bP.cell 1
      go_upto_region 7 with (fail)
      have bP := bP.two_set (.int .i64 (pl (O + O))) (.int .i64 (ph (O + O)))
      have bR := bR.two_far (b := w.heap.size + 1) (by omega) (.int .i64 (pl (O + O))) (.int .i64 (ph (O + O)))
      have tw := (tw.setCell (p := ⟨w.heap.size + 1, 0, none⟩) (.inr (by simp)) (.int .i64 (pl (O + O)))).setCell (p := ⟨w.heap.size + 1, 1, none⟩) (.inr (by simp)) (.int .i64 (ph (O + O)))
      clear p0 p1 fp0 fp1
      generalize (w1.setCell ⟨w.heap.size + 1, 0, none⟩ (.int .i64 (pl (O + O)))).setCell ⟨w.heap.size + 1, 1, none⟩ (.int .i64 (ph (O + O))) = w2 at *
      have fp0 := bP.frozen 0
      have fp1 := bP.frozen 1
      have p0 := bP.cell 0
      have p1 := bP.cell 1
      rcases x with _ | _ | x
      · rw [Nat.zero_mul, Nat.add_zero] at hst
        have hshr : ((a : Int) / 2 ^ j).tmod 2 = 0 := hshr
        have hb0 : ((0 : Int) == 1) = false := rfl
        go_wp2_with fail
        refine ⟨⟨j, by omega, rfl, bR, ?_, tw⟩, ?_⟩
        · rw [HO2.out, hst]; exact bP
        · show ((j : Int) - 1 + 1).toNat < ((j : Int) + 1).toNat; omega
      · rw [Nat.zero_add, Nat.one_mul] at hst
        have hshr : ((a : Int) / 2 ^ j).tmod 2 = 1 := hshr
        go_wp2_with fail
        refine (hadd (O + O) O2 (by omega) (by omega) _).mono ?_
        rintro _ w3 ⟨rfl, t1⟩
        clear p0 p1 fp0 fp1
        have bR := bR.touch t1 (by simp)
        have bP := bP.touch t1 (by simp)
        have tw := tw.trans t1 (by simp)
        clear t1
        have fp0 := bP.frozen 0
        have fp1 := bP.frozen 1
        have p0 := bP.cell 0
        have p1 := bP.cell 1
        go_wp2_with fail
        refine ⟨⟨j, by omega, rfl, bR.two_far (by omega) _ _, ?_, (tw.setCell (.inr (by simp)) _).setCell (.inr (by simp)) _⟩, ?_⟩
        · rw [HO2.out, hst]; exact bP.two_set (.int .i64 (pl (O + O + b))) (.int .i64 (ph (O + O + b)))
        · show ((j : Int) - 1 + 1).toNat < ((j : Int) + 1).toNat; omega
      · exact absurd hx1 (by omega)
end Go.Proofs.YtibifcchmccknaaDoor
