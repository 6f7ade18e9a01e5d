/- rhytonref03.Text: a pair's digits in a base. -/
import Derived.Test.YtkbchpaofmlhgaaGreatDoorStep
import Derived.Laws.StructEq
import Derived.Lib.ItoaNum
namespace Go.Proofs.YtkbchpaofmlhgaaGreatDoor
open Go.RowKit

theorem pair_struct : Tryz.prog.underlying 38 = some (.struct (Tryz.prog.fieldsOf 38)) := by kernel_rfl
theorem pair_stood : Tryz.prog.stoodInHeld 38 = false := by kernel_rfl
theorem pair_guard : Tryz.prog.eqGuardType Tryz.prog.depth 38 = false := by kernel_rfl
theorem pair_eql (a b c d : Int) (w : World) : (binOp .eql 38 (.agg #[.int .i64 a, .int .i64 b]) (.agg #[.int .i64 c, .int .i64 d])).run Tryz.prog w = .ok (.bool (a == c && b == d)) w := by
  rw [run_eql_struct, run_equalIn_agg _ _ _ _ _ pair_struct pair_stood]
  simp only [Program.fieldsOf, Tryz.underlying38]
  go_simp
  repeat' split
  all_goals simp_all

/-- a number's digits in a base -/
def baseL (B n : Nat) : List UInt8 := if _h : 2 ≤ B ∧ B ≤ n then baseL B (n / B) ++ [digC (n % B)] else [digC n]
termination_by n
decreasing_by exact Nat.div_lt_self (by omega) (by omega)
theorem baseL_more (B n : Nat) (h2 : 2 ≤ B) (h : B ≤ n) : baseL B n = baseL B (n / B) ++ [digC (n % B)] := by rw [baseL, dif_pos ⟨h2, h⟩]
theorem baseL_last (B n : Nat) (h : n < B) : baseL B n = [digC n] := by rw [baseL, dif_neg (by omega)]
theorem baseL_dec (n : Nat) : baseL 10 n = Lib.decDigits n := by
  induction n using Nat.strongRecOn with
  | ind n ih =>
    have hd : ∀ u, u < 10 → digC u = UInt8.ofNat (48 + u) := by decide
    rw [Lib.decDigits]
    split
    · rename_i h
      rw [baseL_last 10 n h, hd n h]
    · rename_i h
      rw [baseL_more 10 n (by omega) (by omega), ih (n / 10) (by omega), hd (n % 10) (by omega)]

theorem pair_nil (m : Nat) (h : m < 340282366920938463463374607431768211456) : (pl m == 0 && ph m == 0) = decide (m = 0) := by
  rw [Bool.eq_iff_iff, Bool.and_eq_true, beq_iff_eq, beq_iff_eq, decide_eq_true_eq]
  unfold pl ph cellOf
  refine ⟨fun ⟨h1, h2⟩ => ?_, fun h => by subst h; exact ⟨rfl, rfl⟩⟩
  split at h1 <;> split at h2 <;> omega

theorem conv_one (u : World) (c : UInt8) : (convert 66 9 (.slice (some ⟨u.heap.size, 0, none⟩) 1 1)).run Tryz.prog (u.alloc (.cells #[.int .u8 (c.toNat : Int)] 5)) = .ok (.string ⟨#[c]⟩) (u.alloc (.cells #[.int .u8 (c.toNat : Int)] 5)) :=
  run_convert_bytes_back (P := Tryz.prog) (u.alloc (.cells #[.int .u8 (c.toNat : Int)] 5)) 66 9 5 ⟨u.heap.size, 0, none⟩ 1 [c] Tryz.underlying66 Tryz.underlying5 Tryz.underlying9 (fun j hj => by
    obtain rfl : j = 0 := by simpa using hj
    exact cell_one_new u (.int .u8 (c.toNat : Int)) 5 0 _ rfl)

theorem str_cons (c : UInt8) (s : ByteArray) : ((⟨#[c]⟩ : ByteArray) ++ s).data.toList = c :: s.data.toList := by
  simp

set_option maxRecDepth 100000 in
set_option maxHeartbeats 3200000 in
theorem text_any (n B : Nat) (hn : n < 340282366920938463463374607431768211456) (hB0 : 2 ≤ B) (hB : B ≤ 36) (w : World) :
    Calls Tryz.prog 34 #[.agg (two n), .int .i64 (B : Int)] w fun e w' => e = .returned (.string ⟨(baseL B n).toArray⟩) ∧ Touch [] w w' := by
  have hrt := fun W => right_any (B : Int) (by omega) (by omega) W
  have hstep := fun m (hm : m < 340282366920938463463374607431768211456) W => step_any m B hm hB0 hB W
  unfold two at hstep ⊢
  go_enter Tryz.func34, Tryz.ntmps34
  go_wp2_with fail
  refine (hrt _).mono ?_
  rintro _ _ ⟨rfl, rfl⟩
  have b0 := Blk.new w 38 #[.int .i64 (pl n), .int .i64 (ph n)]
  have t0 := (Touch.refl [] w).alloc (.cells #[.int .i64 (pl n), .int .i64 (ph n)] 38)
  have HB0 := Lib.hid (And.intro b0 t0)
  clear b0 t0
  go_wp2_with fail
  go_loopw [5] (fun sv wr => ∃ (m : Nat) (acc : ByteArray), sv = .string acc ∧ acc.size ≤ 128 ∧ m < 2 ^ (128 - acc.size) ∧ baseL B n = baseL B m ++ acc.data.toList ∧ Blk wr w.heap.size 38 #[.int .i64 (pl m), .int .i64 (ph m)] ∧ Touch [] w wr) (fun sv _ => match sv with | .string x => 129 - x.size | _ => 0)
  case atStart => exact ⟨n, ⟨#[]⟩, rfl, by decide, hn, by simp, HB0.out.1, HB0.out.2⟩
  case round =>
    obtain ⟨m, acc, rfl, hacc, hm, hL, bP, tw⟩ := hrel
    have hm128 : m < 340282366920938463463374607431768211456 := Nat.lt_of_lt_of_le hm (Nat.pow_le_pow_right (by decide) (by omega) : 2 ^ (128 - acc.size) ≤ 2 ^ 128)
    have hs := hstep m hm128
    obtain ⟨c, hc⟩ : ∃ c, digC (m % B) = c := ⟨_, rfl⟩
    obtain ⟨m2, hm2⟩ : ∃ m2, m / B = m2 := ⟨_, rfl⟩
    rw [hc, hm2] at hs
    have HM := Lib.hid hm
    have HL := Lib.hid hL
    have HC := Lib.hid hc
    have HM2 := Lib.hid hm2
    have hm2lt : m2 < 340282366920938463463374607431768211456 := by rw [← hm2]; exact Nat.lt_of_le_of_lt (Nat.div_le_self _ _) hm128
    clear hm hL hc hm2
    have p0 := bP.cell 0
    have p1 := bP.cell 1
    go_wp2_with fail
    refine (hs _).mono ?_
    rintro _ w1 ⟨rfl, t1⟩
    have bP := bP.touch t1 (by simp)
    have tw := tw.trans t1 (by simp)
    clear t1 hs p0 p1
    go_upto_region 5 with (fail)
    have hlt := bP.lt
    have bQ := Blk.new w1 38 #[.int .i64 (pl m2), .int .i64 (ph m2)]
    have bP := bP.alloc (.cells #[.int .i64 (pl m2), .int .i64 (ph m2)] 38)
    have tw := tw.alloc (.cells #[.int .i64 (pl m2), .int .i64 (ph m2)] 38)
    have hne : w.heap.size ≠ w1.heap.size := by omega
    generalize w1.alloc (.cells #[.int .i64 (pl m2), .int .i64 (ph m2)] 38) = wA at *
    have hcv := conv_one wA c
    go_upto_region 6 with (fail)
    have bQ := bQ.alloc (.cells #[.int .u8 (c.toNat : Int)] 5)
    have bP := bP.alloc (.cells #[.int .u8 (c.toNat : Int)] 5)
    have tw := tw.alloc (.cells #[.int .u8 (c.toNat : Int)] 5)
    generalize wA.alloc (.cells #[.int .u8 (c.toNat : Int)] 5) = wB at *
    clear hcv hlt
    have q0 := bQ.cell 0
    have q1 := bQ.cell 1
    have p0 := bP.cell 0
    have p1 := bP.cell 1
    have g0 := bP.frozen 0
    have g1 := bP.frozen 1
    go_upto_region 7 with (fail)
    have bP := bP.two_set (.int .i64 (pl m2)) (.int .i64 (ph m2))
    have tw := (tw.setCell (p := ⟨w.heap.size, 0, none⟩) (.inr (Nat.le_refl _)) (.int .i64 (pl m2))).setCell (p := ⟨w.heap.size, 1, none⟩) (.inr (Nat.le_refl _)) (.int .i64 (ph m2))
    clear q0 q1 p0 p1 g0 g1 bQ
    generalize (wB.setCell ⟨w.heap.size, 0, none⟩ (.int .i64 (pl m2))).setCell ⟨w.heap.size, 1, none⟩ (.int .i64 (ph m2)) = wC at *
    have p0 := bP.cell 0
    have p1 := bP.cell 1
    have heq := fun W => pair_eql (pl m2) (ph m2) 0 0 W
    rw [pair_nil m2 hm2lt] at heq
    have hgd := pair_guard
    have hB0' : 0 < B := by omega
    by_cases hz : m2 = 0
    · rw [decide_eq_true hz] at heq
      have hmB : m < B := by
        have := HM2.out
        rw [hz] at this
        exact (Nat.div_eq_zero_iff_lt hB0').1 this
      have HmB := Lib.hid hmB
      clear hz hmB
      go_wp2_with fail
      go_ret
      refine ⟨congrArg (fun s => Ending.returned (.string s)) (str_ext ?_), tw⟩
      rw [str_cons, ← HC.out, Nat.mod_eq_of_lt HmB.out]
      show _ = (baseL B n).toArray.toList
      rw [List.toList_toArray, HL.out, baseL_last B m HmB.out]
      rfl
    · rw [decide_eq_false hz] at heq
      have hsz : ((⟨#[c]⟩ : ByteArray) ++ acc).size = acc.size + 1 := by
        rw [ByteArray.size_append, Nat.add_comm]
        rfl
      have hBm : B ≤ m := by
        rcases Nat.lt_or_ge m B with h | h
        · exact absurd (by rw [← HM2.out, Nat.div_eq_of_lt h]) hz
        · exact h
      have hacc2 : acc.size + 1 ≤ 128 := by
        rcases Nat.lt_or_ge acc.size 128 with h | h
        · omega
        · have := HM.out
          rw [show 128 - acc.size = 0 by omega, Nat.pow_zero] at this
          omega
      have hm2p : m2 < 2 ^ (128 - (acc.size + 1)) := by
        have h1 := HM.out
        rw [show 128 - acc.size = (128 - (acc.size + 1)) + 1 by omega, Nat.pow_succ] at h1
        rw [← HM2.out]
        have h2 : m / B ≤ m / 2 := Nat.div_le_div_left hB0 (by omega)
        omega
      have hLm : baseL B n = baseL B m2 ++ ((⟨#[c]⟩ : ByteArray) ++ acc).data.toList := by
        rw [str_cons, HL.out, baseL_more B m hB0 hBm, HM2.out, HC.out]
        simp
      have HX := Lib.hid (And.intro hsz (And.intro hacc2 (And.intro hm2p hLm)))
      clear hz hsz hBm hm2p hLm
      go_wp2_with fail
      refine ⟨⟨m2, _, rfl, by rw [HX.out.1]; exact HX.out.2.1, by rw [HX.out.1]; exact HX.out.2.2.1, HX.out.2.2.2, bP, tw⟩, ?_⟩
      show 129 - ((⟨#[c]⟩ : ByteArray) ++ acc).size < 129 - acc.size
      rw [HX.out.1]
      omega
end Go.Proofs.YtkbchpaofmlhgaaGreatDoor
