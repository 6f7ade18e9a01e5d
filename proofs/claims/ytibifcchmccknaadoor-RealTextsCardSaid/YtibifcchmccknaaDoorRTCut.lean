/- rhytonref04's signed, inf, cut. -/
import Derived.Test.YtibifcchmccknaaDoorUMul
import Derived.Test.YtibifcchmccknaaDoorText3
import Derived.Test.YtibifcchmccknaaDoorRTPure
import Derived.Test.YtibifcchmccknaaDoorFloat2
namespace Go.Proofs.YtibifcchmccknaaDoor
open Go.RowKit

theorem wsigned (x : Nat) (h : x < 9223372036854775808) : (x : Int) = cellOf x ∧ wrap64 ((x : Int) + 9223372036854775808) = cellOf (9223372036854775808 + x) := by
  unfold wrap64 cellOf
  refine ⟨?_, ?_⟩
  · rw [if_pos h]
  · rw [if_neg (by omega)]; omega
theorem signedR_any (neg : Bool) (x : Nat) (hx : x < 9223372036854775808) (w : World) : Calls Tryd.prog 35 #[.bool neg, .int .u64 x] w fun e w' => e = .returned (.int .i64 (cellOf (Ieee.double.word neg x))) ∧ w = w' := by
  have H1 := Lib.hid (wsigned x hx)
  have hw0 : Ieee.double.word false x = x := Fl.word_false x
  have hw1 : Ieee.double.word true x = 9223372036854775808 + x := by simp [Ieee.Format.word, Fl.c_sign]
  rcases neg with _ | _
  · rw [hw0]
    go_enter Tryd.func35, Tryd.ntmps35
    go_wp2_with fail
    go_ret
    exact ⟨ret1 (vint H1.out.1), rfl⟩
  · rw [hw1]
    go_enter Tryd.func35, Tryd.ntmps35
    go_wp2_with fail
    go_ret
    exact ⟨ret1 (vint H1.out.2), rfl⟩
theorem infR_any (neg : Bool) (w : World) : Calls Tryd.prog 68 #[.bool neg] w fun e w' => e = .returned (.int .i64 (cellOf (Ieee.double.word neg 9218868437227405312))) ∧ w = w' := by
  have h := fun W => signedR_any neg 9218868437227405312 (by omega) W
  go_enter Tryd.func68, Tryd.ntmps68
  go_wp2_with fail
  refine (h _).mono ?_
  rintro _ _ ⟨rfl, rfl⟩
  go_wp2_with fail
  go_ret
  exact ⟨rfl, rfl⟩

/-- a number's cells, of a number below 2^127 -/
theorem ph_nat (N : Nat) (h : N < 170141183460469231731687303715884105728) : ph N = ((N / 18446744073709551616 : Nat) : Int) := by
  unfold ph cellOf
  rw [if_pos (by omega)]
  omega
theorem pl_bits (N : Nat) : IntKind.u64.wrap (pl N) = ((N % 18446744073709551616 : Nat) : Int) := by
  unfold pl
  rw [bits_wrap64, bits_cell _ (by omega)]
theorem pl_odd (N : Nat) : ((pl N).tmod 2 != 0) = decide (N % 2 = 1) := by
  have h1 : (pl N).tmod 2 = 0 → (2 : Int) ∣ pl N := Int.dvd_of_tmod_eq_zero
  have h2 : (2 : Int) ∣ pl N → (pl N).tmod 2 = 0 := Int.tmod_eq_zero_of_dvd
  have h3 : (2 : Int) ∣ pl N ↔ N % 2 = 0 := by
    unfold pl cellOf
    split <;> omega
  rw [Bool.eq_iff_iff, bne_iff_ne, decide_eq_true_eq]
  omega
theorem half_lo (N : Nat) : pl (N / 2) = wrap64 (((N % 18446744073709551616 / 2 : Nat) : Int) + (if N / 18446744073709551616 % 2 = 1 then 9223372036854775808 else 0)) := by
  unfold pl wrap64 cellOf
  split <;> split <;> omega
theorem half_hi (N : Nat) (h : N < 170141183460469231731687303715884105728) : ph (N / 2) = ((N / 18446744073709551616 / 2 : Nat) : Int) := by
  rw [ph_nat _ (by omega)]
  omega

set_option maxRecDepth 100000 in
set_option maxHeartbeats 3200000 in
theorem cutR_any (neg : Bool) (N0 : Nat) (hN0 : 0 < N0) (hN1 : N0 < 42535295865117307932921825928971026432) (e0 : Int) (he0 : -30000 ≤ e0) (he1 : e0 ≤ 30000) (w : World) :
    Calls Tryd.prog 53 #[.bool neg, .agg (two N0), .int .i64 e0, .bool false] w fun x w' => ∃ v, CutIs neg N0 e0 v ∧ x = .returned (.int .i64 v) ∧ Touch [] w w' := by
  have hsig : ∀ (X : Int), 0 ≤ X → X < 9223372036854775808 → ∀ W, Calls Tryd.prog 35 #[.bool neg, .int .u64 X] W fun e w' => e = .returned (.int .i64 (cellOf (Ieee.double.word neg X.toNat))) ∧ W = w' := fun X h0 h1 W => by
    obtain ⟨x, rfl⟩ : ∃ x : Nat, X = x := ⟨X.toNat, by omega⟩
    exact signedR_any neg x (by omega) W
  have hinf := fun W => infR_any neg W
  have hgd := pair_guard
  have heq := fun W => pair_eql (pl N0) (ph N0) 0 0 W
  rw [pair_nil N0 (by omega), decide_eq_false (by omega)] at heq
  have HQ := Lib.hid hN0
  have HN1 := Lib.hid hN1
  clear hN0
  unfold two
  go_enter Tryd.func53, Tryd.ntmps53
  go_upto_region 1 with (fail)
  have bP := Blk.new w 57 #[.int .i64 (pl N0), .int .i64 (ph N0)]
  have tw := (Touch.refl [] w).alloc (.cells #[.int .i64 (pl N0), .int .i64 (ph N0)] 57)
  generalize w.alloc (.cells #[.int .i64 (pl N0), .int .i64 (ph N0)] 57) = wA at *
  have p0 := bP.cell 0
  have p1 := bP.cell 1
  go_wp2_with fail
  clear p0 p1 heq
  go_loopw [2, 3] (fun i m wr => ∃ (N j : Nat) (e : Int) (more : Bool), N < 42535295865117307932921825928971026432 ∧ i = .int .i64 e ∧ m = .bool more ∧ -30000 ≤ e ∧ e ≤ 30200 ∧ Hid (N = N0 / 2 ^ j ∧ e = e0 + j) ∧ Hid (Kept N0 e0 N e more) ∧ Blk wr w.heap.size 57 (two N) ∧ Touch [] w wr) (fun i _ _ => (30201 - intOf i).toNat)
  case atStart => exact ⟨N0, 0, e0, false, hN1, rfl, rfl, he0, by omega, ⟨by simp, by simp⟩, Kept.start N0 e0, bP, tw⟩
  case round =>
    obtain ⟨N, j, e, more, hN, rfl, rfl, hb0, hb1, HJ, HK, bP, tw⟩ := hrel
    have p0 := bP.cell 0
    have p1 := bP.cell 1
    have fp0 := bP.frozen 0
    have fp1 := bP.frozen 1
    have hLw := pl_bits N
    have hod := pl_odd N
    have hlo := half_lo N
    have hhi := half_hi N (by omega)
    have hp1 : (two N)[1]? = some (.int .i64 ((N / 18446744073709551616 : Nat) : Int)) := by rw [← ph_nat N (by omega)]; rfl
    rw [hp1] at p1
    obtain ⟨H, hH⟩ : ∃ H, N / 18446744073709551616 = H := ⟨_, rfl⟩
    obtain ⟨L, hL⟩ : ∃ L, N % 18446744073709551616 = L := ⟨_, rfl⟩
    obtain ⟨o, ho⟩ : ∃ o, decide (N % 2 = 1) = o := ⟨_, rfl⟩
    rw [hH] at p1 hhi hlo
    rw [hL] at hLw hlo
    rw [ho] at hod
    have hH64 : H < 2305843009213693952 := by omega
    have hL64 : L < 18446744073709551616 := by omega
    clear hp1
    by_cases hc : 18014398509481984 ≤ N ∨ e < -1075
    · have hK := (show Kept N0 e0 N e more from HK).step hc
      rw [ho] at hK
      have hJ : N / 2 = N0 / 2 ^ (j + 1) ∧ e + 1 = e0 + ((j + 1 : Nat) : Int) := by
        obtain ⟨h1, h2⟩ := (show N = N0 / 2 ^ j ∧ e = e0 + j from HJ)
        refine ⟨?_, by omega⟩
        rw [Nat.pow_succ, ← Nat.div_div_eq_div_mul, ← h1]
      have hje : e < 30200 := by
        obtain ⟨h1, h2⟩ := (show N = N0 / 2 ^ j ∧ e = e0 + j from HJ)
        rcases hc with hc | hc
        · have h3 : 18014398509481984 * 2 ^ j ≤ N0 := Nat.le_trans (Nat.mul_le_mul_right _ hc) (by rw [h1]; exact Nat.div_mul_le_self _ _)
          have h4 : j < 71 := by
            rcases Nat.lt_or_ge j 71 with h | h
            · exact h
            · have : (2 : Nat) ^ 71 ≤ 2 ^ j := Nat.pow_le_pow_right (by decide) h
              have h71 : (2 : Nat) ^ 71 = 2361183241434822606848 := by decide
              omega
          omega
        · omega
      have HK2 := Lib.hid hK
      have HJ2 := Lib.hid hJ
      obtain ⟨Li, hLi⟩ : ∃ Li : Int, (L : Int) = Li := ⟨_, rfl⟩
      obtain ⟨Hi, hHi⟩ : ∃ Hi : Int, (H : Int) = Hi := ⟨_, rfl⟩
      rw [hLi] at hLw
      rw [hHi] at p1
      obtain ⟨l2, hl2⟩ : ∃ l2 : Int, Li / 2 = l2 := ⟨_, rfl⟩
      obtain ⟨h2, hh2⟩ : ∃ h2 : Int, Hi / 2 = h2 := ⟨_, rfl⟩
      have hlo2 : (Hi % 2 = 1 → pl (N / 2) = wrap64 (l2 + 9223372036854775808)) ∧ (Hi % 2 = 0 → pl (N / 2) = l2) := by
        refine ⟨fun h => ?_, fun h => ?_⟩
        · rw [hlo, if_pos (by omega)]
          congr 1
          omega
        · rw [hlo, if_neg (by omega), Int.add_zero]
          unfold wrap64
          omega
      have hhi2 : ph (N / 2) = h2 := by rw [hhi]; omega
      have hLi0 : 0 ≤ Li := by omega
      have hLi1 : Li < 18446744073709551616 := by omega
      have hHi0 : 0 ≤ Hi := by omega
      have hHi1 : Hi < 2305843009213693952 := by omega
      have hl20 : 0 ≤ l2 := by omega
      have hl21 : l2 < 9223372036854775808 := by omega
      have hh20 : 0 ≤ h2 := by omega
      have hh21 : h2 < 2305843009213693952 := by omega
      have hwh : IntKind.u64.wrap Hi = Hi := by rw [IntKind.wrap_u64]; omega
      have hcase : (Hi != 0) = true ∨ (Hi != 0) = false ∧ 18014398509481984 ≤ Li ∨ (Hi != 0) = false ∧ ¬ 18014398509481984 ≤ Li ∧ e < -1075 := by
        by_cases h0 : Hi = 0
        · right
          simp only [h0, bne_self_eq_false, true_and]
          omega
        · exact .inl (by simpa using h0)
      have hpar : (Hi % 2 != 0) = true ∧ Hi % 2 = 1 ∨ (Hi % 2 != 0) = false ∧ Hi % 2 = 0 := by
        rcases (show Hi % 2 = 0 ∨ Hi % 2 = 1 by omega) with h | h
        · exact .inr ⟨by rw [h]; rfl, h⟩
        · exact .inl ⟨by rw [h]; rfl, h⟩
      have HLO := Lib.hid hlo2
      have HHI := Lib.hid hhi2
      clear hK HK HJ hJ hc hlo hhi hlo2 hhi2 hLi hHi ho hH hL hH64 hL64
      rcases hpar with ⟨hq, hq1⟩ | ⟨hq, hq1⟩ <;> rcases hcase with ht | ⟨ht, ht2⟩ | ⟨ht, ht2, ht3⟩ <;> rcases more with _ | _
      all_goals
        have HQ1 := Lib.hid hq1
        clear hq1
        go_wp2_with fail
        refine ⟨⟨N / 2, j + 1, e + 1, _, by omega, rfl, rfl, by omega, by omega, HJ2, HK2, ?_, ((tw.setCell (.inr (Nat.le_refl _)) _).setCell (.inr (Nat.le_refl _)) _)⟩, ?_⟩
        · have hpl := HLO.out
          have hq2 := HQ1.out
          have hph := HHI.out
          show Blk _ _ _ #[.int .i64 (pl (N / 2)), .int .i64 (ph (N / 2))]
          rw [hph]
          first
            | (rw [hpl.1 hq2]; exact bP.two_set _ _)
            | (rw [hpl.2 hq2]; exact bP.two_set _ _)
        · show (30201 - (e + 1)).toNat < (30201 - e).toNat
          omega
    · have hF := (show Kept N0 e0 N e more from HK).last (by omega) (by omega)
      have HF := Lib.hid hF
      obtain rfl : H = 0 := by omega
      obtain rfl : N = L := by omega
      obtain ⟨m, hm⟩ : ∃ m, N / 2 = m := ⟨_, rfl⟩
      have hm2 : (N : Int) / 2 = (m : Int) := by omega
      obtain ⟨d, hd⟩ : ∃ d, decide (m % 2 = 1) = d := ⟨_, rfl⟩
      have hd2 : ((m : Int) % 2 == 1) = d := by rw [← hd, Bool.eq_iff_iff, beq_iff_eq, decide_eq_true_eq]; omega
      have ho2 : ((N : Int) % 2 == 1) = o := by rw [← ho, Bool.eq_iff_iff, beq_iff_eq, decide_eq_true_eq]; omega
      have hN54 : N < 18014398509481984 := by omega
      have hm53 : m < 9007199254740992 := by omega
      have he75 : -1075 ≤ e := by omega
      have HO := Lib.hid ho
      have HD := Lib.hid hd
      have HM := Lib.hid hm
      obtain ⟨Ni, hNi⟩ : ∃ Ni : Int, (N : Int) = Ni := ⟨_, rfl⟩
      rw [hNi] at hLw hm2 ho2
      have hNi0 : 0 ≤ Ni := by omega
      have hNi1 : Ni < 18014398509481984 := by omega
      have HNi := Lib.hid hNi
      clear hF HK HJ hc hL hH hd ho hm hlo hhi hod hNi hN54 hL64
      clear hH64
      have p1 : wr.cell? { block := w.heap.size, off := 1 } = some (Value.int IntKind.i64 0) := p1
      go_upto_region 14 with (fail)
      obtain ⟨mi, hmi⟩ : ∃ mi : Int, Ni / 2 = mi := ⟨_, rfl⟩
      rw [hmi]
      have hmm : mi = (m : Int) := by omega
      have hd3 : (mi % 2 == 1) = d := by rw [hmm]; exact hd2
      have hmi0 : 0 ≤ mi := by omega
      have hmi1 : mi < 9007199254740992 := by omega
      have HMM := Lib.hid hmm
      clear p0 p1 fp0 fp1 hLw hm2 hd2 ho2 hmi hmm hNi0 hNi1
      go_cut [75] from 67 (fun s75 wx => s75 = .bool (o && (more || d)) ∧ wr = wx)
      case first =>
        rcases o with _ | _ <;> rcases more with _ | _ <;> rcases d with _ | _
        all_goals
          go_wp2_with fail
          go_meet
          exact ⟨rfl, rfl⟩
      case rest =>
        obtain ⟨rfl, rfl⟩ := hcut
        obtain ⟨b, hb⟩ : ∃ b, (o && (more || d)) = b := ⟨_, rfl⟩
        rw [hb]
        have HB := Lib.hid hb
        clear hb hd3
        go_upto_if 75 with (fail)
        go_cut [10] from 76 (fun s10 wx => ∃ m1 : Int, s10 = .int .u64 m1 ∧ 0 ≤ m1 ∧ m1 ≤ 9007199254740992 ∧ Hid (Fin1 N0 e0 m1.toNat (e + 1)) ∧ wr = wx)
        case first =>
          rcases b with _ | _
          · go_wp2_with fail
            go_meet
            refine ⟨mi, rfl, hmi0, by omega, ?_, rfl⟩
            rw [HMM.out, Int.toNat_natCast, ← HM.out]
            exact HF.out.half
          · go_wp2_with fail
            go_meet
            refine ⟨mi + 1, rfl, by omega, by omega, ?_, rfl⟩
            refine HF.out.up ?_ _ _
            have h1 := HB.out
            rw [Bool.and_eq_true, ← HO.out, decide_eq_true_eq] at h1
            exact h1.1
        case rest =>
          obtain ⟨m1, rfl, hm10, hm11, HF1, rfl⟩ := hcut
          clear HB HF HO HD HM HMM hmi0 hmi1 hm53 HNi
          go_upto_if 79 with (fail)
          go_cut [2, 10] from 80 (fun s2 s10 wx => ∃ (e2 m2 : Int), s2 = .int .i64 e2 ∧ s10 = .int .u64 m2 ∧ 0 ≤ m2 ∧ m2 < 9007199254740992 ∧ -1074 ≤ e2 ∧ e2 ≤ 30300 ∧ Hid (Fin1 N0 e0 m2.toNat e2) ∧ wr = wx)
          case first =>
            by_cases hbig : 9007199254740992 ≤ m1
            · obtain ⟨m3, hm3⟩ : ∃ m3, m1 / 2 = m3 := ⟨_, rfl⟩
              have hm30 : 0 ≤ m3 ∧ m3 < 9007199254740992 := by omega
              have HF2 := Lib.hid ((show Fin1 N0 e0 m1.toNat (e + 1) from HF1).big (by omega) m3.toNat (e + 1 + 1))
              go_wp2_with fail
              go_meet
              rw [hm3]
              exact ⟨e + 1 + 1, m3, rfl, rfl, hm30.1, hm30.2, by omega, by omega, HF2, rfl⟩
            · go_wp2_with fail
              go_meet
              exact ⟨e + 1, m1, rfl, rfl, hm10, by omega, by omega, by omega, HF1, rfl⟩
          case rest =>
            obtain ⟨e2, m2, rfl, rfl, hm20, hm21, he20, he21, HF2, rfl⟩ := hcut
            clear HF1 hm10 hm11 hb0 hb1 hN he75 bP hN1
            have hF2 : Fin1 N0 e0 m2.toNat e2 := HF2
            by_cases hout : 971 < e2
            · have HC := Lib.hid (hF2.inf neg hout)
              clear hF2 HF2
              go_wp2_with fail
              refine (hinf _).mono ?_
              rintro _ _ ⟨rfl, rfl⟩
              go_wp2_with fail
              go_ret
              exact ⟨_, HC, rfl, tw⟩
            · by_cases hlow : m2 < 4503599627370496
              · have HC := Lib.hid (hF2.low neg (by omega))
                clear hF2 HF2
                go_wp2_with fail
                refine (hsig m2 hm20 (by omega) _).mono ?_
                rintro _ _ ⟨rfl, rfl⟩
                go_wp2_with fail
                go_ret
                exact ⟨_, HC, rfl, tw⟩
              · obtain ⟨X, hX⟩ : ∃ X : Int, (e2 + 1075) * 4503599627370496 + m2 - 4503599627370496 = X := ⟨_, rfl⟩
                have hX0 : 0 ≤ X := by omega
                obtain ⟨hX1, hC⟩ := hF2.norm neg (by omega) (by omega) he20 (by omega) X.toNat (by omega)
                have HC := Lib.hid hC
                clear hF2 HF2 hC
                go_wp2_with fail
                refine (hsig X hX0 (by omega) _).mono ?_
                rintro _ _ ⟨rfl, rfl⟩
                go_wp2_with fail
                go_ret
                exact ⟨_, HC, rfl, tw⟩
end Go.Proofs.YtibifcchmccknaaDoor
