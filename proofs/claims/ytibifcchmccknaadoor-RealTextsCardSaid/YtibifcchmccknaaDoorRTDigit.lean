/- rhytonref03's Value and Accept, in base ten. -/
import Derived.Test.YtibifcchmccknaaDoorUMul
import Derived.Test.YtibifcchmccknaaDoorText3
namespace Go.Proofs.YtibifcchmccknaaDoor
open Go.RowKit

theorem digC_ten : ∀ d, d < 10 → (((digC d).toNat : Nat) : Int) = 48 + d := by decide

set_option maxRecDepth 100000 in
set_option maxHeartbeats 3200000 in
theorem value10_any (c : Int) (w : World) (b : Bool) (n : Int) (hb : decide (48 ≤ c ∧ c ≤ 57) = b) (hn : (if 48 ≤ c ∧ c ≤ 57 then c - 48 else 0) = n) :
    Calls Tryd.prog 65 #[.int .u8 c, .int .i64 10] w fun e w' => e = .returned (.tuple #[.int .i64 n, .bool b]) ∧ w = w' := by
  have hlet := fun (d : Nat) (hd : d < 36) W => run_letter d hd W
  have HB := Lib.hid hb
  have HN := Lib.hid hn
  clear hb hn
  go_enter Tryd.func65, Tryd.ntmps65
  go_wp2_with fail
  go_loopw [6] (fun i wr => ∃ k : Nat, k ≤ 10 ∧ i = .int .i64 k ∧ Hid (c < 48 ∨ 48 + (k : Int) ≤ c) ∧ w = wr) (fun i _ => 11 - (intOf i).toNat)
  case atStart => exact ⟨0, by omega, rfl, (by omega : c < 48 ∨ 48 + ((0 : Nat) : Int) ≤ c), rfl⟩
  case round =>
    obtain ⟨k, hk, rfl, HC, rfl⟩ := hrel
    by_cases hlt : k < 10
    · have hl := hlet k (by omega) w
      unfold lettersS at hl
      rw [digC_ten k hlt] at hl
      obtain ⟨ki, hki⟩ : ∃ ki : Int, (k : Int) = ki := ⟨_, rfl⟩
      rw [hki] at hl ⊢
      have hk0 : 0 ≤ ki := by omega
      have hk1 : ki < 10 := by omega
      have HK := Lib.hid hki
      clear hlet hki hk hlt
      by_cases he : 48 + ki = c
      · have he2 : (48 + ki == c) = true := by simpa using he
        have HE := Lib.hid he
        clear he
        go_wp2_with fail
        go_ret2
        have h2 := HB.out
        have h3 := HN.out
        have h4 := HE.out
        rw [decide_eq_true (by omega)] at h2
        rw [if_pos (by omega)] at h3
        rw [← h2, ← h3]
        exact ⟨ret2 (vint (by omega)) rfl, rfl⟩
      · have he2 : (48 + ki == c) = false := by simpa using he
        have HE := Lib.hid he
        clear he
        go_wp2_with fail
        have h4 := HE.out
        have h5 := HK.out
        have h1 : c < 48 ∨ 48 + (k : Int) ≤ c := HC
        refine ⟨⟨k + 1, by omega, vint (by omega), (by omega : c < 48 ∨ 48 + ((k + 1 : Nat) : Int) ≤ c), trivial⟩, ?_⟩
        show 11 - (ki + 1).toNat < 11 - ki.toNat
        omega
    · obtain rfl : k = 10 := by omega
      clear hlet hlt
      go_wp2_with fail
      go_ret2
      have h1 : c < 48 ∨ 48 + ((10 : Nat) : Int) ≤ c := HC
      have h2 := HB.out
      have h3 := HN.out
      rw [decide_eq_false (by omega)] at h2
      rw [if_neg (by omega)] at h3
      rw [← h2, ← h3]
      exact ⟨rfl, rfl⟩

theorem ten_nat (N A M : Nat) (hA : N % 18446744073709551616 = A) (hM : N * 10 % 340282366920938463463374607431768211456 = M) : A * 10 % 18446744073709551616 = M % 18446744073709551616 ∧
    M / 18446744073709551616 = (A * 10 / 18446744073709551616 + N / 18446744073709551616 * 10) % 18446744073709551616 := by
  have hB : (340282366920938463463374607431768211456 : Nat) = 18446744073709551616 * 18446744073709551616 := by decide
  rw [hB] at hM
  have hN : N * 10 = A * 10 + 18446744073709551616 * (N / 18446744073709551616 * 10) := by
    have := Nat.div_add_mod N 18446744073709551616
    rw [hA] at this
    generalize N / 18446744073709551616 = H at *
    omega
  rw [← hM, Nat.mod_mul_right_mod, Nat.mod_mul_right_div_self, hN, Nat.add_mul_mod_self_left, Nat.add_mul_div_left _ _ (by decide)]
  exact ⟨rfl, rfl⟩
theorem ph_bits (X : Nat) : bitsOf (ph X) = X / 18446744073709551616 % 18446744073709551616 := by
  unfold ph
  rw [bits_cell _ (Nat.mod_lt _ (by decide))]
theorem bits_ten (x : Int) (h : Nat) (hx : bitsOf x = h) : bitsOf (x * 10) = h * 10 % 18446744073709551616 := by
  have h1 := bitsOf_cast x
  have h2 := bitsOf_cast (x * 10)
  rw [hx] at h1
  rw [Int.mul_emod, ← h1] at h2
  have h3 : ((h * 10 % 18446744073709551616 : Nat) : Int) = (bitsOf (x * 10) : Int) := by
    rw [h2, Int.natCast_emod, Int.natCast_mul, Int.mul_emod]
    congr 2
    rw [h1]
    exact Int.emod_emod_of_dvd x (Int.dvd_refl _)
  exact (Int.ofNat.inj h3).symm
theorem ten_laws (N A M : Nat) (hA : N % 18446744073709551616 = A) (hM : N * 10 % 340282366920938463463374607431768211456 = M) : pl (A * 10) = pl M ∧ wrap64 (ph (A * 10) + wrap64 (ph N * 10)) = ph M := by
  obtain ⟨h1, h2⟩ := ten_nat N A M hA hM
  refine ⟨?_, ?_⟩
  · unfold pl
    rw [h1]
  · rw [wrap_cell, bits_add, bits_wrap, bits_ten _ _ (ph_bits N), ph_bits]
    unfold ph
    rw [h2]
    congr 1
    generalize A * 10 / 18446744073709551616 = x
    generalize N / 18446744073709551616 = y
    rw [Nat.mod_mul_mod, ← Nat.add_mod, Nat.mod_mod]
/-- digits read behind a number, modulo two to the 128: the number, and how many bytes are left -/
def accN (N : Nat) : List UInt8 → Nat × Nat
  | [] => (N, 0)
  | c :: r => if 48 ≤ c.toNat ∧ c.toNat ≤ 57 then accN ((N * 10 + (c.toNat - 48)) % 340282366920938463463374607431768211456) r else (N, r.length + 1)

set_option maxRecDepth 100000 in
set_option maxHeartbeats 3200000 in
theorem accept10_any (s : ByteArray) (hs : s.size ≤ 1000) (w : World) (N1 L1 : Nat) (h1 : accN 0 s.data.toList = (N1, L1)) :
    Calls Tryd.prog 51 #[.agg #[.int .i64 0, .int .i64 0], .string s, .int .i64 10] w fun e w' => e = .returned (.tuple #[.agg (two N1), .int .i64 L1]) ∧ Touch [] w w' := by
  have hrt := fun W => right_any (10 : Int) (by omega) (by omega) W
  have hval := fun c W b n hb hn => value10_any c W b n hb hn
  have hmul := fun a (ha : a < 18446744073709551616) W => umul_any a 10 ha (by omega) W
  rw [show pl 10 = 10 by decide] at hmul
  have H1 := Lib.hid h1
  clear h1
  unfold two at hmul ⊢
  go_enter Tryd.func51, Tryd.ntmps51
  go_upto_region 1 with (fail)
  have bP := (Blk.new w 57 #[.int .i64 0, .int .i64 0]).alloc (.cells #[.int .i64 0, .int .i64 0] 57)
  have bR := Blk.new_at (n := w.heap.size + 1) (w.alloc (.cells #[.int .i64 0, .int .i64 0] 57)) (by simp) 57 #[.int .i64 0, .int .i64 0]
  have tw := ((Touch.refl [] w).alloc (.cells #[.int .i64 0, .int .i64 0] 57)).alloc (.cells #[.int .i64 0, .int .i64 0] 57)
  generalize (w.alloc (.cells #[.int .i64 0, .int .i64 0] 57)).alloc (.cells #[.int .i64 0, .int .i64 0] 57) = wA at *
  have hlen : s.data.toList.length = s.size := by rw [Array.length_toList]; rfl
  have HLN := Lib.hid hlen
  clear hlen
  go_wp2_with fail
  refine (hrt _).mono ?_
  rintro _ _ ⟨rfl, rfl⟩
  go_wp2_with fail
  go_loopw [8] (fun i wr => ∃ (k N : Nat), k ≤ s.size ∧ i = .int .i64 k ∧ N < 340282366920938463463374607431768211456 ∧ Hid (accN 0 s.data.toList = accN N (s.data.toList.drop k)) ∧ Blk wr w.heap.size 57 (two N) ∧ Blk wr (w.heap.size + 1) 57 #[.int .i64 0, .int .i64 0] ∧ Touch [] w wr) (fun i _ => 1001 - (intOf i).toNat)
  case atStart => exact ⟨0, 0, by omega, rfl, by omega, rfl, bP, bR, tw⟩
  case round =>
    obtain ⟨k, N, hk, rfl, hN, HA, bP, bR, tw⟩ := hrel
    have p0 := bP.cell 0
    have p1 := bP.cell 1
    have r0 := bR.cell 0
    have r1 := bR.cell 1
    have fr0 := bR.frozen 0
    have fr1 := bR.frozen 1
    by_cases hlt : k < s.size
    · obtain ⟨c, hc⟩ : ∃ c, s[k] = c := ⟨_, rfl⟩
      have hix : ∀ W, (Instr.index 9 (.string s) (.int .i64 (k : Int))).run Tryd.prog W = .ok (.int .u8 (c.toNat : Int)) W := fun W => by
        rw [run_index_string W _ s _ _ (by kernel_rfl)]
        simp [hlt, hc]
      have hdrop : s.data.toList.drop k = c :: s.data.toList.drop (k + 1) := by
        rw [← List.getElem_cons_drop (by rw [HLN.out]; exact hlt)]
        congr 1
      rw [hdrop] at HA
      have hdl : (s.data.toList.drop (k + 1)).length = s.size - (k + 1) := by rw [List.length_drop, HLN.out]
      obtain ⟨r, hr⟩ : ∃ r, s.data.toList.drop (k + 1) = r := ⟨_, rfl⟩
      rw [hr] at HA hdl
      have h1 := H1.out
      rw [(show accN 0 s.data.toList = accN N (c :: r) from HA)] at h1
      unfold accN at h1
      have HR := Lib.hid hr
      have HDL := Lib.hid hdl
      obtain ⟨ci, hci⟩ : ∃ ci : Int, ((c.toNat : Nat) : Int) = ci := ⟨_, rfl⟩
      rw [hci] at hix
      by_cases hdig : 48 ≤ c.toNat ∧ c.toNat ≤ 57
      · rw [if_pos hdig] at h1
        have hv := fun W => hval ci W true (ci - 48) (decide_eq_true (by omega)) (if_pos (by omega))
        have hci0 : 48 ≤ ci := by omega
        have hci1 : ci ≤ 57 := by omega
        obtain ⟨A, hA⟩ : ∃ A, N % 18446744073709551616 = A := ⟨_, rfl⟩
        have hplA : pl A = pl N := by rw [← hA]; unfold pl; rw [Nat.mod_mod]
        have hm := fun W => hmul A (by omega) W
        rw [hplA] at hm
        have HCI := Lib.hid hci
        have H2 := Lib.hid h1
        have HDG := Lib.hid hdig
        have HPA := Lib.hid hplA
        have HAA := Lib.hid hA
        clear h1 hdig hci hr hdl hval hmul hdrop hc hplA hA
        go_wp2_with fail
        refine (hv _).mono ?_
        rintro _ _ ⟨rfl, rfl⟩
        go_wp2_with fail
        refine (hm _).mono ?_
        rintro _ w2 ⟨rfl, t2⟩
        clear p0 p1 r0 r1 fr0 fr1
        have bP := bP.touch t2 (by simp)
        have bR := bR.touch t2 (by simp)
        have tw := tw.trans t2 (by simp)
        clear t2 hm hv
        have p0 := bP.cell 0
        have p1 := bP.cell 1
        go_upto_region 10 with (fail)
        have hlt1 := bR.lt
        have bL := Blk.new w2 57 #[.int .i64 (pl (A * 10)), .int .i64 (ph (A * 10))]
        have bP := bP.alloc (.cells #[.int .i64 (pl (A * 10)), .int .i64 (ph (A * 10))] 57)
        have bR := bR.alloc (.cells #[.int .i64 (pl (A * 10)), .int .i64 (ph (A * 10))] 57)
        have tw := tw.alloc (.cells #[.int .i64 (pl (A * 10)), .int .i64 (ph (A * 10))] 57)
        have hne0 : w.heap.size ≠ w2.heap.size := by omega
        have hne1 : w.heap.size + 1 ≠ w2.heap.size := by omega
        have hle2 : w.heap.size ≤ w2.heap.size := by omega
        obtain ⟨g, hg⟩ : ∃ g, w2.heap.size = g := ⟨_, rfl⟩
        rw [hg] at bL hne0 hne1 hle2 ⊢
        generalize w2.alloc (.cells #[.int .i64 (pl (A * 10)), .int .i64 (ph (A * 10))] 57) = wB at *
        have p0 := bP.cell 0
        have p1 := bP.cell 1
        have q0 := bL.cell 0
        have q1 := bL.cell 1
        have fq1 := bL.frozen 1
        clear hg hlt1
        go_upto_region 11 with (fail)
        obtain ⟨M, hM⟩ : ∃ M, N * 10 % 340282366920938463463374607431768211456 = M := ⟨_, rfl⟩
        obtain ⟨d, hd⟩ : ∃ d : Nat, c.toNat - 48 = d := ⟨_, rfl⟩
        have hcd := HCI.out
        have hdg := HDG.out
        have hd9 : d ≤ 9 := by omega
        obtain ⟨l1, l2⟩ := ten_laws N A M HAA.out hM
        have hadd := fun W => add_p M d (by omega) (by omega) _ rfl W
        rw [(p_small d (by omega)).1, (p_small d (by omega)).2, show cellOf d = ci - 48 by unfold cellOf; rw [if_pos (by omega)]; omega, ← l2, ← l1] at hadd
        obtain ⟨R, hR⟩ : ∃ R, (M + d) % 340282366920938463463374607431768211456 = R := ⟨_, rfl⟩
        rw [hR] at hadd
        have hR2 : (N * 10 + (c.toNat - 48)) % 340282366920938463463374607431768211456 = R := by rw [← hR, ← hM, hd, Nat.mod_add_mod]
        have hRlt : R < 340282366920938463463374607431768211456 := by omega
        have HR2 := Lib.hid hR2
        generalize wrap64 (ph (A * 10) + wrap64 (ph N * 10)) = hv at *
        have bL := bL.set_ 1 (.int .i64 hv)
        have bP := bP.far (p := ⟨g, 1, none⟩) hne0 (.int .i64 hv)
        have bR := bR.far (p := ⟨g, 1, none⟩) hne1 (.int .i64 hv)
        have tw := tw.setCell (p := ⟨g, 1, none⟩) (.inr hle2) (.int .i64 hv)
        clear p0 p1 q0 q1 fq1 hR hR2 hM hd hcd hdg hd9 l1 l2
        generalize wB.setCell ⟨g, 1, none⟩ (.int .i64 hv) = wC at *
        have q0 := bL.cell 0
        have q1 := bL.cell 1
        go_wp2_with fail
        refine (hadd _).mono ?_
        rintro _ w3 ⟨rfl, t3⟩
        clear q0 q1 hadd
        have bP := bP.touch t3 (by simp)
        have bR := bR.touch t3 (by simp)
        have tw := tw.trans t3 (by simp)
        clear t3
        have p0 := bP.cell 0
        have p1 := bP.cell 1
        have fp0 := bP.frozen 0
        have fp1 := bP.frozen 1
        go_wp2_with fail
        refine ⟨⟨k + 1, R, by omega, rfl, hRlt, ?_, bP.two_set (.int .i64 (pl R)) (.int .i64 (ph R)), bR.two_far (by omega) _ _, (tw.setCell (.inr (Nat.le_refl _)) _).setCell (.inr (Nat.le_refl _)) _⟩, ?_⟩
        · show accN 0 s.data.toList = accN R (s.data.toList.drop (k + 1))
          rw [HR.out, H1.out, ← H2.out, HR2.out]
        · show 1001 - ((k : Int) + 1).toNat < 1001 - (k : Int).toNat
          omega
      · rw [if_neg hdig] at h1
        obtain ⟨rfl, hL1⟩ := (Prod.mk.injEq _ _ _ _).mp h1
        have hv := fun W => hval ci W false 0 (decide_eq_false (by omega)) (if_neg (by omega))
        have hLI : ((s.size : Int) - k) = (L1 : Int) := by omega
        have HLI := Lib.hid hLI
        clear h1 hL1 hLI hdig hci hr hdl hval hmul hdrop hc
        go_wp2_with fail
        refine (hv _).mono ?_
        rintro _ _ ⟨rfl, rfl⟩
        go_wp2_with fail
        obtain ⟨z0, z1⟩ := two_back bR (.int .i64 (pl N)) (.int .i64 (ph N))
        refine bodyPost_ret (by simp [results, Tryd.results51, go_sem, z0, z1]; try rfl) rfl ⟨ret2 rfl (vint HLI.out), ?_⟩
        exact (tw.setCell (.inr (by simp)) _).setCell (.inr (by simp)) _
    · obtain rfl : k = s.size := by omega
      have h1 := H1.out
      rw [HA.out, ← HLN.out, List.drop_length] at h1
      obtain ⟨rfl, rfl⟩ := (Prod.mk.injEq _ _ _ _).mp (show (N, 0) = (N1, L1) from h1)
      clear h1
      go_wp2_with fail
      obtain ⟨z0, z1⟩ := two_back bR (.int .i64 (pl N)) (.int .i64 (ph N))
      refine bodyPost_ret (by simp [results, Tryd.results51, go_sem, z0, z1]; try rfl) rfl ⟨rfl, ?_⟩
      exact (tw.setCell (.inr (by simp)) _).setCell (.inr (by simp)) _
end Go.Proofs.YtibifcchmccknaaDoor
