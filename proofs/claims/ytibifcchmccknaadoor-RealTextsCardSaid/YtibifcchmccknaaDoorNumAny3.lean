/- real.Number at any text (3): a whole part above nought. -/
import Derived.Test.YtibifcchmccknaaDoorNumAny2
namespace Go.Proofs.YtibifcchmccknaaDoor
open Go.RowKit

set_option maxHeartbeats 6400000 in
set_option maxRecDepth 100000 in
theorem Number_far (s rest hd tl tl2 : ByteArray) (sg under : Bool) (M n b : Nat) (k : Int) (hP : PartsA s rest hd tl tl2 sg true under (M : Int) k true true) (hM0 : M ≠ 0) (hM1 : (M : Int) ≤ 9007199254740992) (hn : Lib.ctz 64 M = n) (hb : Lib.bitLen M = b) (hn64 : n < 64) (hb64 : b ≤ 64)
    (hE : (if under then -k else k) + n < -1074 ∨ -1074 ≤ (if under then -k else k) + (n : Int) ∧ 1024 < (if under then -k else k) + b) : NumIs s 0 false := by
  intro w hT hM hE' hR
  have HM := Lib.hid hM
  have HE := Lib.hid hE'
  have HR := Lib.hid hR
  have HT := Lib.hid hT
  have hbig : ¬ 9007199254740992 < (M : Int) := by omega
  have hpos : 0 < (M : Int) := by omega
  have hk := hP.kk rfl
  have hk0 : -10000 < k := by omega
  have hk1 : k < 10000 := by omega
  have htz := fun W hT => tz_any M (by omega) hM0 W hT
  rw [hn] at htz
  have hlen := fun W => Tryd.bits_Len64 (M : Int) W (by omega) (by omega)
  rw [Int.toNat_natCast, hb] at hlen
  have c1 := hP.c1
  have c2 := hP.c2
  have c3 := hP.c3
  have c4 := hP.c4
  have c5 := hP.c5
  clear hP hT hM hE' hR hk hn hb
  rcases under with _ | _
  all_goals
    simp only [Bool.false_eq_true, if_false, if_true] at hE
    go_enter Tryd.func18, Tryd.ntmps18
    go_wp2_with fail
    refine (c1 _).mono ?_
    rintro _ _ ⟨rfl, rfl⟩
    go_wp2_with fail
    refine (c2 _ HM.out).mono ?_
    rintro _ w2 ⟨rfl, t2⟩
    go_wp2_with fail
    refine (c3 _).mono ?_
    rintro _ _ ⟨rfl, rfl⟩
    go_wp2_with fail
    refine (c4 _ (HE.out.touch t2) (HR.out.touch t2)).mono ?_
    rintro _ w3 ⟨rfl, t3⟩
    have t4 := t2.trans t3 (by simp)
    clear t2 t3
    go_wp2_with fail
    refine (c5 _ (HE.out.touch t4) (HR.out.touch t4)).mono ?_
    rintro _ w5 ⟨rfl, t5⟩
    have t6 := t4.trans t5 (by simp)
    clear t4 t5 c1 c2 c3 c4 c5
    go_wp2_with fail
    refine (htz _ (HT.out.touch t6)).mono ?_
    rintro _ _ ⟨rfl, rfl⟩
    clear htz
    rcases hE with hE | ⟨hE, hE2⟩
    · clear hlen
      go_wp2_with fail
      go_ret2
      exact ⟨rfl, t6⟩
    · go_wp2_with fail
      refine (hlen _).mono ?_
      rintro _ _ ⟨rfl, rfl⟩
      clear hlen
      go_wp2_with fail
      go_ret2
      exact ⟨rfl, t6⟩

set_option maxHeartbeats 6400000 in
set_option maxRecDepth 100000 in
theorem Number_near (s rest hd tl tl2 : ByteArray) (sg under : Bool) (M n b r q0 : Nat) (k : Int) (hP : PartsA s rest hd tl tl2 sg true under (M : Int) k true true) (hM0 : M ≠ 0) (hM1 : (M : Int) ≤ 9007199254740992) (hn : Lib.ctz 64 M = n) (hb : Lib.bitLen M = b) (hn64 : n < 64) (hb64 : b ≤ 64)
    (hE : -1074 ≤ (if under then -k else k) + (n : Int)) (hE2 : (if under then -k else k) + (b : Int) ≤ 1024)
    (hr : r < 9218868437227405312) (hw0 : floatOfInt .f64 (M : Int) = q0)
    (hsc : ∀ K, K = (if under then -k else k) → ∀ W, Calls Tryd.prog 32 #[.float .f64 q0, .int .i64 K] W fun e w' => e = .returned (.float .f64 r) ∧ W = w') : NumIs s (madeOf (Ieee.double.word sg r)) true := by
  intro w hT hM hE' hR
  have HM := Lib.hid hM
  have HE := Lib.hid hE'
  have HR := Lib.hid hR
  have HT := Lib.hid hT
  have hbig : ¬ 9007199254740992 < (M : Int) := by omega
  have hpos : 0 < (M : Int) := by omega
  have hk := hP.kk rfl
  have hk0 : -10000 < k := by omega
  have hk1 : k < 10000 := by omega
  have htz := fun W hT => tz_any M (by omega) hM0 W hT
  rw [hn] at htz
  have hlen := fun W => Tryd.bits_Len64 (M : Int) W (by omega) (by omega)
  rw [Int.toNat_natCast, hb] at hlen
  have hcs := fun W => copysign_any r (by omega) W
  have hword : Ieee.double.word true r = 9223372036854775808 + r := by unfold Ieee.Format.word; rw [Fl.c_sign]; rfl
  have hmade := fun W => made_any (Ieee.double.word sg r) (by unfold Ieee.Format.word; rw [Fl.c_sign]; split <;> omega) W
  have c1 := hP.c1
  have c2 := hP.c2
  have c3 := hP.c3
  have c4 := hP.c4
  have c5 := hP.c5
  clear hP hT hM hE' hR hk hn hb
  rcases under with _ | _
  all_goals
    have hsc2 := hsc _ rfl
    clear hsc
    simp only [Bool.false_eq_true, if_false, if_true] at hE hE2 hsc2
    go_enter Tryd.func18, Tryd.ntmps18
    go_wp2_with fail
    refine (c1 _).mono ?_
    rintro _ _ ⟨rfl, rfl⟩
    go_wp2_with fail
    refine (c2 _ HM.out).mono ?_
    rintro _ w2 ⟨rfl, t2⟩
    go_wp2_with fail
    refine (c3 _).mono ?_
    rintro _ _ ⟨rfl, rfl⟩
    go_wp2_with fail
    refine (c4 _ (HE.out.touch t2) (HR.out.touch t2)).mono ?_
    rintro _ w3 ⟨rfl, t3⟩
    have t4 := t2.trans t3 (by simp)
    clear t2 t3
    go_wp2_with fail
    refine (c5 _ (HE.out.touch t4) (HR.out.touch t4)).mono ?_
    rintro _ w5 ⟨rfl, t5⟩
    have t6 := t4.trans t5 (by simp)
    clear t4 t5 c1 c2 c3 c4 c5
    go_wp2_with fail
    refine (htz _ (HT.out.touch t6)).mono ?_
    rintro _ _ ⟨rfl, rfl⟩
    clear htz
    go_wp2_with fail
    refine (hlen _).mono ?_
    rintro _ _ ⟨rfl, rfl⟩
    clear hlen
    go_wp2_with fail
    refine (hsc2 _).mono ?_
    rintro _ _ ⟨rfl, rfl⟩
    clear hsc2
    rcases sg with _ | _
    · rw [Fl.word_false] at hmade
      go_wp2_with fail
      refine (hmade _).mono ?_
      rintro _ _ ⟨rfl, rfl⟩
      go_wp2_with fail
      go_ret2
      exact ⟨ret2 (vint (by rw [Fl.word_false])) rfl, t6⟩
    · rw [hword] at hmade
      go_wp2_with fail
      refine (hcs _).mono ?_
      rintro _ _ ⟨rfl, rfl⟩
      go_wp2_with fail
      refine (hmade _).mono ?_
      rintro _ _ ⟨rfl, rfl⟩
      go_wp2_with fail
      go_ret2
      exact ⟨ret2 (vint (by rw [hword])) rfl, t6⟩

theorem Number_pos (s rest hd tl tl2 : ByteArray) (sg under : Bool) (M : Nat) (k : Int) (hP : PartsA s rest hd tl tl2 sg true under (M : Int) k true true) (hM0 : M ≠ 0) (hM1 : M ≤ 9007199254740992) : ∃ v b, NumIs s v b := by
  obtain ⟨q, hMq, hn64⟩ := Lib.ctzFrom_spec 64 M (by omega) (by omega)
  have hctz : Lib.ctz 64 M = Lib.ctzFrom 64 M := by simp [Lib.ctz, hM0]
  obtain ⟨n, hn⟩ : ∃ n, Lib.ctzFrom 64 M = n := ⟨_, rfl⟩
  rw [hn] at hMq hn64 hctz
  have hbl := bitLen_log M hM0 (by omega)
  have hlogM : M.log2 < 54 := (Nat.log2_lt hM0).2 (by omega)
  obtain ⟨m, hm⟩ : ∃ m, 2 * q + 1 = m := ⟨_, rfl⟩
  rw [hm] at hMq
  have hm0 : m ≠ 0 := by omega
  have hMm : M = m * 2 ^ n := by rw [hMq, Nat.mul_comm]
  have hlog : M.log2 = m.log2 + n := by rw [hMm]; exact Fl.log2_mul_pow m n hm0
  have hm53 : m < 9007199254740992 := by
    rcases Nat.eq_zero_or_pos n with h | h
    · rw [h, Nat.pow_zero, Nat.mul_one] at hMm
      omega
    · obtain ⟨j, hj⟩ : ∃ j, n = j + 1 := ⟨n - 1, by omega⟩
      have h1 : m * 2 ≤ M := by
        rw [hMm, hj, Nat.pow_succ, ← Nat.mul_assoc, Nat.mul_right_comm]
        exact Nat.le_mul_of_pos_right _ (Nat.two_pow_pos j)
      omega
  obtain ⟨E, hEd⟩ : ∃ E, (if under then -k else k) = E := ⟨_, rfl⟩
  by_cases hA : E + (n : Int) < -1074
  · exact ⟨0, false, Number_far s rest hd tl tl2 sg under M n (M.log2 + 1) k hP hM0 (by omega) hctz hbl hn64 (by omega) (.inl (by rw [hEd]; exact hA))⟩
  by_cases hB : 1024 < E + ((M.log2 + 1 : Nat) : Int)
  · exact ⟨0, false, Number_far s rest hd tl tl2 sg under M n (M.log2 + 1) k hP hM0 (by omega) hctz hbl hn64 (by omega) (.inr ⟨by rw [hEd]; omega, by rw [hEd]; exact hB⟩)⟩
  obtain ⟨t, ht⟩ : ∃ t : Nat, (t : Int) = E + n + 1074 := ⟨(E + n + 1074).toNat, by omega⟩
  obtain ⟨r, hr, hrv⟩ := Fl.rung_of m t hm53 (.inr (by omega))
  obtain ⟨q0, hq0, hqv⟩ := Fl.rung_of m (1074 + n) hm53 (.inr (by omega))
  have hw : floatOfInt .f64 (M : Int) = q0 := by
    have : floatOfInt .f64 (M : Int) = Ieee.double.word (decide ((M : Int) < 0)) q0 := Fl.write_unit _ hq0 (by
      rw [hqv, Int.natAbs_natCast, hMm, Fl.U_eq, Fl.B_eq, Nat.add_comm, Nat.pow_add, Nat.mul_assoc])
    rw [this, decide_eq_false (by omega), Fl.word_false]
  refine ⟨_, true, Number_near s rest hd tl tl2 sg under M n (M.log2 + 1) r q0 k hP hM0 (by omega) hctz hbl hn64 (by omega) (by rw [hEd]; omega) (by rw [hEd]; omega) hr hw ?_⟩
  intro K hK W
  rw [hEd] at hK
  exact scaled_gen m t r q0 n hm53 (by omega) (by omega) hrv hq0 hqv K (by omega) W

theorem Number_all (s : ByteArray) (hs : s.size ≤ 200) : ∃ v b, NumIs s v b := by
  obtain ⟨rest, hd, tl, tl2, sg, found, under, m, k, ok, is, hP⟩ := partsA s hs
  rcases found with _ | _
  · exact ⟨0, false, Number_no s rest hd tl tl2 sg _ under m k ok is hP (.inl rfl)⟩
  rcases ok with _ | _
  · exact ⟨0, false, Number_no s rest hd tl tl2 sg _ under m k _ is hP (.inr (.inl ⟨rfl, rfl⟩))⟩
  rcases is with _ | _
  · exact ⟨0, false, Number_no s rest hd tl tl2 sg _ under m k _ _ hP (.inr (.inr (.inl ⟨rfl, rfl, rfl⟩)))⟩
  by_cases hbig : 9007199254740992 < m
  · exact ⟨0, false, Number_no s rest hd tl tl2 sg _ under m k _ _ hP (.inr (.inr (.inr ⟨rfl, rfl, rfl, hbig⟩)))⟩
  by_cases hpos : 0 < m
  · obtain ⟨M, rfl⟩ : ∃ M : Nat, m = M := ⟨m.toNat, by omega⟩
    exact Number_pos s rest hd tl tl2 sg under M k hP (by omega) (by omega)
  · exact ⟨_, true, Number_zero s rest hd tl tl2 sg under m k hP (by omega)⟩

end Go.Proofs.YtibifcchmccknaaDoor
