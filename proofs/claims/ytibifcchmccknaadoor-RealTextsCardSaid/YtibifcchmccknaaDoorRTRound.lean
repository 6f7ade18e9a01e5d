/- rhytonref04's rounded. -/
import Derived.Test.YtibifcchmccknaaDoorRTCut
namespace Go.Proofs.YtibifcchmccknaaDoor
open Go.RowKit

theorem pair_neq (a b c d : Int) (w : World) : (binOp .neq 57 (.agg #[.int .i64 a, .int .i64 b]) (.agg #[.int .i64 c, .int .i64 d])).run Tryd.prog w = .ok (.bool (!(a == c && b == d))) w := by
  rw [run_neq_struct, run_equalIn_agg _ _ _ _ _ pair_struct pair_stood]
  simp only [Program.fieldsOf, Tryd.underlying57]
  go_simp
  repeat' split
  all_goals simp_all
theorem pow_lt_bits (m k : Nat) (h0 : 0 < m) (h : m * 2 ^ k < 42535295865117307932921825928971026432) : k < 125 := by
  rcases Nat.lt_or_ge k 125 with h1 | h1
  · exact h1
  · have h2 : (2 : Nat) ^ 125 ≤ 2 ^ k := Nat.pow_le_pow_right (by decide) h1
    have h3 : (2 : Nat) ^ 125 = 42535295865117307932921825928971026432 := by decide
    have h4 : 2 ^ k ≤ m * 2 ^ k := Nat.le_mul_of_pos_left _ h0
    omega

set_option maxRecDepth 100000 in
set_option maxHeartbeats 3200000 in
theorem rounded_any (neg : Bool) (m : Nat) (hm0 : 0 < m) (hm1 : m < 18446744073709551616) (e0 : Int) (he0 : -20000 ≤ e0) (he1 : e0 ≤ 20000) (w : World) :
    Calls Tryd.prog 36 #[.bool neg, .agg (two m), .int .i64 e0, .bool false] w fun x w' => ∃ v, RoundIs neg m e0 v ∧ x = .returned (.int .i64 v) ∧ Touch [] w w' := by
  have hcut := fun N h0 h1 e g0 g1 W => cutR_any neg N h0 h1 e g0 g1 W
  have htw := fun x r (hx : x < 340282366920938463463374607431768211456) hr W => twice_p x hx r hr W
  have hgd := pair_guard
  unfold two at hcut
  unfold two
  go_enter Tryd.func36, Tryd.ntmps36
  go_upto_region 1 with (fail)
  have bP := Blk.new w 57 #[.int .i64 (pl m), .int .i64 (ph m)]
  have tw := (Touch.refl [] w).alloc (.cells #[.int .i64 (pl m), .int .i64 (ph m)] 57)
  generalize w.alloc (.cells #[.int .i64 (pl m), .int .i64 (ph m)] 57) = wA at *
  go_wp2_with fail
  go_loopw [2] (fun i wr => ∃ (N k : Nat) (e : Int), N < 42535295865117307932921825928971026432 ∧ 0 < N ∧ i = .int .i64 e ∧ -20000 ≤ e + 125 ∧ e ≤ 20000 ∧ Hid (N = m * 2 ^ k ∧ e = e0 - k) ∧ Blk wr w.heap.size 57 (two N) ∧ Touch [] w wr) (fun i _ => (intOf i + 21000).toNat)
  case atStart => exact ⟨m, 0, e0, by omega, hm0, rfl, by omega, he1, ⟨by simp, by simp⟩, bP, tw⟩
  case round =>
    obtain ⟨N, k, e, hN, hN0, rfl, hb0, hb1, HJ, bP, tw⟩ := hrel
    have p0 := bP.cell 0
    have p1 := bP.cell 1
    have fp0 := bP.frozen 0
    have fp1 := bP.frozen 1
    have hne := fun W => pair_neq (pl N) (ph N) 0 0 W
    rw [pair_nil N (by omega), decide_eq_false (by omega), Bool.not_false] at hne
    have hph := ph_nat N (by omega)
    obtain ⟨Hi, hHi⟩ : ∃ Hi : Int, ((N / 18446744073709551616 : Nat) : Int) = Hi := ⟨_, rfl⟩
    rw [hHi] at hph
    have hHi0 : 0 ≤ Hi := by omega
    have hwh : IntKind.u64.wrap Hi = Hi := by rw [IntKind.wrap_u64]; omega
    have hp1 : (two N)[1]? = some (.int .i64 Hi) := by rw [← hph]; rfl
    rw [hp1] at p1
    rw [hph] at hne
    clear hp1
    by_cases hbig : 21267647932558653966460912964485513216 ≤ N
    · have hHi2 : ¬ Hi < 1152921504606846976 := by omega
      have hc := hcut N hN0 hN e (by omega) (by omega) wr
      rw [hph] at hc
      have HC := Lib.hid hc
      clear hHi hph hc
      go_wp2_with fail
      refine HC.out.mono ?_
      rintro _ w1 ⟨v, hv, rfl, t1⟩
      have HV := Lib.hid hv
      clear hv
      go_wp2_with fail
      go_ret
      refine ⟨v, ?_, rfl, tw.trans t1 (by simp)⟩
      obtain ⟨j1, j2⟩ := (show N = m * 2 ^ k ∧ e = e0 - k from HJ)
      refine round_of_cut neg m k e0 v ?_ ?_
      · rw [← j1]; exact hbig
      · rw [← j1, ← j2]; exact HV.out
    · have hHi2 : Hi < 1152921504606846976 := by omega
      have hc := htw N (N + N) (by omega) (by omega) wr
      rw [hph] at hc
      have HC := Lib.hid hc
      have hJ2 : N + N = m * 2 ^ (k + 1) ∧ e - 1 = e0 - ((k + 1 : Nat) : Int) := by
        obtain ⟨j1, j2⟩ := (show N = m * 2 ^ k ∧ e = e0 - k from HJ)
        refine ⟨?_, by omega⟩
        rw [Nat.pow_succ, ← Nat.mul_assoc, ← j1]
        omega
      have hk := pow_lt_bits m (k + 1) hm0 (by rw [← hJ2.1]; omega)
      have hb2 : -20000 ≤ e - 1 + 125 := by omega
      have HJ2 := Lib.hid hJ2
      clear hph hHi hc hJ2 HJ hk
      go_wp2_with fail
      refine HC.out.mono ?_
      rintro _ w1 ⟨rfl, t1⟩
      clear p0 p1 fp0 fp1
      have bP := bP.touch t1 (by simp)
      have tw := tw.trans t1 (by simp)
      clear t1
      have p0 := bP.cell 0
      have p1 := bP.cell 1
      have fp0 := bP.frozen 0
      have fp1 := bP.frozen 1
      go_wp2_with fail
      refine ⟨⟨N + N, k + 1, e - 1, by omega, by omega, rfl, hb2, by omega, HJ2, bP.two_set (.int .i64 (pl (N + N))) (.int .i64 (ph (N + N))), ((tw.setCell (.inr (Nat.le_refl _)) _).setCell (.inr (Nat.le_refl _)) _)⟩, ?_⟩
      show (e - 1 + 21000).toNat < (e + 21000).toNat
      omega
end Go.Proofs.YtibifcchmccknaaDoor
