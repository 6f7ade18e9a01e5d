/- The program's whole at any text, its parts; the document's whole. -/
import Derived.Test.YtibifcchmccknaaDoorRTWhole
namespace Go.Proofs.YtibifcchmccknaaDoor
open Go.RowKit

set_option maxHeartbeats 1600000 in
set_option maxRecDepth 100000 in
theorem wholeP_any (s : ByteArray) (hl : s.size ≤ 200) (many : Nat) (hm : many ≤ 16) : ∃ n : Int, (wholeB s.data.toList many = true → n = (((accN 0 s.data.toList).1 : Nat) : Int)) ∧
    ∀ w, ErrIs w → RngIs w → Calls Tryd.prog 29 #[.string s, .int .i64 many] w fun e w' => e = .returned (.tuple #[.int .i64 n, .bool (wholeB s.data.toList many)]) ∧ Touch [] w w' := by
  rcases hA : Lib.atoiAll s.data.toList with v | _ | _
  · have h0 : 0 < s.size := by
      rcases Nat.eq_zero_or_pos s.size with h | h
      · have hn : s.data.toList = [] := List.length_eq_zero_iff.1 (by rw [Array.length_toList]; exact h)
        rw [hn] at hA
        cases hA
      · exact h
    obtain ⟨c0, hc⟩ : ∃ c0, s[0]'h0 = c0 := ⟨_, rfl⟩
    have hix : ∀ W, (Instr.index 9 (.string s) (.int .i64 0)).run Tryd.prog W = .ok (.int .u8 (c0.toNat : Int)) W := fun W => by
      rw [run_index_string W _ s _ _ (by kernel_rfl)]
      simp [h0, hc]
    have hhead : s.data.toList.head? = some c0 := by
      rw [List.head?_eq_getElem?, ← hc, Array.getElem?_toList]
      exact Array.getElem?_eq_getElem h0
    have hlen : s.data.toList.length = s.size := by rw [Array.length_toList]; rfl
    have hE : (decide ((s.size : Int) ≤ many) && (decide ((c0.toNat : Int) ≥ 48) && decide ((c0.toNat : Int) ≤ 57))) = wholeB s.data.toList many := by
      rw [Bool.eq_iff_iff]
      refine ⟨fun h => ?_, fun h => ?_⟩
      · simp only [Bool.and_eq_true, decide_eq_true_eq] at h
        exact (whole_atoi _ many v c0 (by omega) hhead (by omega) hA).1
      · obtain ⟨h1, h2, h3⟩ := of_decide_eq_true h
        have hc0 := acc_left _ 0 h3 c0 (List.mem_of_mem_head? hhead)
        simp only [Bool.and_eq_true, decide_eq_true_eq]
        omega
    have hV : wholeB s.data.toList many = true → v = (((accN 0 s.data.toList).1 : Nat) : Int) := fun h => by
      have := atoi_whole _ many hm h
      rw [hA] at this
      injection this
    refine ⟨v, hV, ?_⟩
    intro w _ _
    rw [← hE]
    have HA := Lib.hid (Tryd.strconv_Atoi_ok s (by omega) v hA w)
    clear hA hc hV hE hhead hlen
    generalize (many : Int) = mI
    generalize (c0.toNat : Int) = cI at hix
    rcases d0 : decide ((s.size : Int) ≤ mI) with _ | _ <;> rcases d1 : decide (cI ≥ 48) with _ | _ <;> rcases d2 : decide (cI ≤ 57) with _ | _
    all_goals
      go_enter Tryd.func29, Tryd.ntmps29
      go_wp2_with fail
      refine HA.out.mono ?_
      rintro _ w1 ⟨rfl, hw⟩
      have t1 : Touch [] w w1 := by
        rcases hw with rfl | ⟨t, rfl⟩
        · exact Touch.refl _ _
        · exact touch_bytes w t
      clear hw
      go_wp2_with fail
      go_quiet (fail)
      go_wp2
      go_ret2
      exact ⟨rfl, t1.drewN _⟩
  · have hb : wholeB s.data.toList many = false := by
      rcases hb : wholeB s.data.toList many with _ | _
      · rfl
      · rw [atoi_whole _ many hm hb] at hA
        cases hA
    rw [hb]
    refine ⟨0, (by simp), ?_⟩
    rintro w ⟨ev, hv, hev⟩ _
    have HA := Lib.hid (Any.strconv_Atoi_syntax Tryd.laysC172 s (by omega) hA ev w hv hev)
    clear hA hv hev hb
    generalize (many : Int) = mI
    go_enter Tryd.func29, Tryd.ntmps29
    go_wp2_with fail
    refine HA.out.mono ?_
    rintro _ w1 ⟨N, rfl, _, _, hb⟩
    have ht : Touch [] w w1 := Touch.of_below hb _
    clear hb HA
    go_wp2_with fail
    go_quiet (fail)
    go_wp2
    go_ret2
    exact ⟨rfl, ht.drewN _⟩
  · have hb : wholeB s.data.toList many = false := by
      rcases hb : wholeB s.data.toList many with _ | _
      · rfl
      · rw [atoi_whole _ many hm hb] at hA
        cases hA
    rw [hb]
    refine ⟨Lib.atoiSat s.data.toList, (by simp), ?_⟩
    rintro w _ ⟨ev, hv, hev⟩
    have HA := Lib.hid (Any.strconv_Atoi_range Tryd.laysC172 s (by omega) hA ev w hv hev)
    obtain ⟨v, hvv⟩ : ∃ v, Lib.atoiSat s.data.toList = v := ⟨_, rfl⟩
    rw [hvv] at HA ⊢
    clear hA hv hev hvv hb
    generalize (many : Int) = mI
    go_enter Tryd.func29, Tryd.ntmps29
    go_wp2_with fail
    refine HA.out.mono ?_
    rintro _ w1 ⟨N, rfl, _, _, hb⟩
    have ht : Touch [] w w1 := Touch.of_below hb _
    clear hb HA
    go_wp2_with fail
    go_quiet (fail)
    go_wp2
    go_ret2
    exact ⟨rfl, ht.drewN _⟩

theorem partsX (s : ByteArray) (hs : s.size ≤ 200) (r1 h t t2 : List UInt8) (sg found under : Bool) (e1 : Lib.trimPrefix s.data.toList [45] = r1) (e2 : Lib.hasPrefix s.data.toList [45] = sg) (e3 : Lib.cut r1 [112] = (h, t, found))
    (e4 : Lib.trimPrefix t [45] = t2) (e5 : Lib.hasPrefix t [45] = under) :
    ∃ rest hd tl tl2 m k, PartsA s rest hd tl tl2 sg found under m k (wholeB h 16) (wholeB t2 4) ∧ (wholeB h 16 = true → m = (((accN 0 h).1 : Nat) : Int)) ∧ (wholeB t2 4 = true → k = (((accN 0 t2).1 : Nat) : Int)) := by
  have q1 : s.data.toList.length ≤ 200 := by rw [Array.length_toList]; exact hs
  have l1 := trim_len s.data.toList [45]
  have l2 := cut_len r1 [112]
  have l3 := trim_len t [45]
  rw [e1] at l1
  rw [e3] at l2
  rw [e4] at l3
  simp only at l2
  obtain ⟨m, hm, h4⟩ := wholeP_any ⟨h.toArray⟩ (by rw [size_of']; omega) 16 (by omega)
  obtain ⟨k, hk, h5⟩ := wholeP_any ⟨t2.toArray⟩ (by rw [size_of']; omega) 4 (by omega)
  rw [str_of] at hm h4 hk h5
  refine ⟨⟨r1.toArray⟩, ⟨h.toArray⟩, ⟨t.toArray⟩, ⟨t2.toArray⟩, m, k, ⟨?_, ?_, ?_, h4, h5, fun hb => ?_, fun hb => ?_⟩, hm, hk⟩
  · intro W
    rw [← e1, ← e2]
    exact (Tryd.strings_CutPrefix s ⟨#[45]⟩ W).mono fun _ _ ⟨h1, h2⟩ => ⟨h1, h2.symm⟩
  · rintro W ⟨mx, hmx⟩
    rw [show h = (Lib.cut r1 [112]).1 by rw [e3], show t = (Lib.cut r1 [112]).2.1 by rw [e3], show found = (Lib.cut r1 [112]).2.2 by rw [e3]]
    have h := Tryd.strings_Cut ⟨r1.toArray⟩ ⟨#[112]⟩ mx W (by rw [size_of']; omega) hmx
    exact h.mono fun _ _ ⟨h1, n, h2⟩ => ⟨h1, h2 ▸ (Touch.refl _ _).drewN _⟩
  · intro W
    rw [← e4, ← e5]
    exact (Tryd.strings_CutPrefix ⟨t.toArray⟩ ⟨#[45]⟩ W).mono fun _ _ ⟨h1, h2⟩ => ⟨h1, h2.symm⟩
  · rw [hm hb]
    exact Nat.lt_of_lt_of_le (atoi_lt h _ (atoi_whole h 16 (by omega) hb)) (Nat.pow_le_pow_right (by decide) (of_decide_eq_true hb).2.1)
  · rw [hk hb]
    exact Nat.lt_of_lt_of_le (atoi_lt t2 _ (atoi_whole t2 4 (by omega) hb)) (Nat.pow_le_pow_right (by decide) (of_decide_eq_true hb).2.1)

set_option maxRecDepth 100000 in
theorem wholeR_any (s : ByteArray) (hs : s.size ≤ 1000) (many : Nat) (w : World) :
    Calls Tryd.prog 34 #[.string s, .int .i64 many] w fun e w' => e = .returned (.tuple #[.int .i64 (pl (accN 0 s.data.toList).1), .bool (wholeB s.data.toList many)]) ∧ Touch [] w w' := by
  have hlen : s.data.toList.length = s.size := by rw [Array.length_toList]; rfl
  obtain ⟨N1, L1, hNL⟩ : ∃ N1 L1, accN 0 s.data.toList = (N1, L1) := ⟨_, _, rfl⟩
  have hacc := fun W => accept10_any s hs W N1 L1 hNL
  have hB : wholeB s.data.toList many = decide (1 ≤ s.size ∧ s.size ≤ many ∧ L1 = 0) := by
    unfold wholeB
    rw [hNL, hlen]
  obtain ⟨b, hb⟩ : ∃ b, decide (1 ≤ s.size ∧ s.size ≤ many ∧ L1 = 0) = b := ⟨_, rfl⟩
  rw [hB, hNL, hb]
  have HB := Lib.hid hb
  clear hB hNL hlen hb
  unfold two at hacc
  obtain ⟨Li, hLi⟩ : ∃ Li : Int, (L1 : Int) = Li := ⟨_, rfl⟩
  obtain ⟨Mi, hMi⟩ : ∃ Mi : Int, (many : Int) = Mi := ⟨_, rfl⟩
  rw [hMi]
  rw [hLi] at hacc
  have HLi := Lib.hid hLi
  have HMi := Lib.hid hMi
  by_cases hA : 1 ≤ s.size
  · have hA2 : (1 : Int) ≤ (s.size : Int) := by omega
    by_cases hC : s.size ≤ many
    · have hC2 : (s.size : Int) ≤ Mi := by omega
      obtain ⟨q, hq⟩ : ∃ q, (Li == 0) = q := ⟨_, rfl⟩
      have HQ := Lib.hid hq
      have HA := Lib.hid hA
      have HC := Lib.hid hC
      clear hLi hMi hA hC
      go_enter Tryd.func34, Tryd.ntmps34
      go_wp2_with fail
      refine (hacc _).mono ?_
      rintro _ w1 ⟨rfl, t1⟩
      go_wp2_with fail
      go_ret2
      refine ⟨ret2 rfl (vbool ?_), t1.alloc _⟩
      have h1 := HB.out
      have h2 := HQ.out
      have h3 := HLi.out
      have h4 := HA.out
      have h5 := HC.out
      rw [← h1, ← h2, Bool.eq_iff_iff, decide_eq_true_eq, beq_iff_eq]
      omega
    · have hC2 : ¬ (s.size : Int) ≤ Mi := by omega
      have hb2 : b = false := by rw [← HB.out]; exact decide_eq_false (by omega)
      subst hb2
      clear hLi hMi hA hC
      go_enter Tryd.func34, Tryd.ntmps34
      go_wp2_with fail
      refine (hacc _).mono ?_
      rintro _ w1 ⟨rfl, t1⟩
      go_wp2_with fail
      go_ret2
      exact ⟨rfl, t1.alloc _⟩
  · have hA2 : ¬ (1 : Int) ≤ (s.size : Int) := by omega
    have hb2 : b = false := by rw [← HB.out]; exact decide_eq_false (by omega)
    subst hb2
    clear hLi hMi hA
    go_enter Tryd.func34, Tryd.ntmps34
    go_wp2_with fail
    refine (hacc _).mono ?_
    rintro _ w1 ⟨rfl, t1⟩
    go_wp2_with fail
    go_ret2
    exact ⟨rfl, t1.alloc _⟩
end Go.Proofs.YtibifcchmccknaaDoor
