/- real.Number at any text: its answer hangs on the text alone. -/
import Derived.Test.YtibifcchmccknaaDoorReal15
import Derived.Shelf.Strconv.AtoiAll
namespace Go.Proofs.YtibifcchmccknaaDoor
open Go.RowKit

/-- ErrRange holds an error or none -/
def RngIs (W : World) : Prop := ∃ ev, W.cell? ⟨5, 0, none⟩ = some ev ∧ (ev = .nilIface ∨ ∃ te pe, ev = .iface te pe)
theorem RngIs.touch {w w' : World} (h : RngIs w) (ht : Touch [] w w') : RngIs w' := by
  obtain ⟨ev, hm, hev⟩ := h
  refine ⟨ev, ?_, hev⟩
  have hlt : 5 < w.heap.size := by
    rcases Nat.lt_or_ge 5 w.heap.size with h' | h'
    · exact h'
    · rw [World.cell?] at hm
      simp [Array.getElem?_eq_none h'] at hm
  rw [ht.cell (p := ⟨5, 0, none⟩) hlt (by simp)]
  exact hm

theorem parse_lt : ∀ (l : List UInt8) (acc u k : Nat), acc < 10 ^ k → Lib.parseUint10 acc l = .ok u → u < 10 ^ (k + l.length)
  | [], acc, u, k, ha, h => by
    simp only [Lib.parseUint10] at h
    injection h with h
    subst h
    simpa using ha
  | c :: r, acc, u, k, ha, h => by
    simp only [Lib.parseUint10] at h
    split at h
    · split at h
      · cases h
      · split at h
        · cases h
        · have := parse_lt r _ u (k + 1) (by rw [Nat.pow_succ]; omega) h
          rw [List.length_cons, show k + (r.length + 1) = k + 1 + r.length by omega]
          exact this
    · cases h

theorem atoi_lt (l : List UInt8) (v : Int) (h : Lib.atoiAll l = .ok v) : v.natAbs < 10 ^ l.length := by
  cases l with
  | nil => cases h
  | cons c r =>
    have key : ∀ u, Lib.parseMag (if c.toNat = 43 ∨ c.toNat = 45 then r else c :: r) = .ok u → u < 10 ^ (c :: r).length := by
      intro u hu
      have hle : (if c.toNat = 43 ∨ c.toNat = 45 then r else c :: r).length ≤ (c :: r).length := by split <;> simp
      generalize (if c.toNat = 43 ∨ c.toNat = 45 then r else c :: r) = L at hu hle
      unfold Lib.parseMag at hu
      split at hu
      · cases hu
      · have h1 := parse_lt _ 0 u 0 (by decide) hu
        rw [Nat.zero_add] at h1
        exact Nat.lt_of_lt_of_le h1 (Nat.pow_le_pow_right (by decide) hle)
    unfold Lib.atoiAll at h
    simp only at h
    split at h
    · cases h
    · cases h
    · rename_i u hu
      have := key u hu
      split at h
      · cases h
      · split at h
        · cases h
        · injection h with h
          subst h
          split <;> omega

set_option maxHeartbeats 1600000 in
set_option maxRecDepth 100000 in
theorem whole_any (s : ByteArray) (hl : s.size ≤ 200) (many : Nat) : ∃ (n : Int) (b : Bool), (b = true → n.natAbs < 10 ^ many) ∧
    ∀ w, ErrIs w → RngIs w → Calls Tryd.prog 29 #[.string s, .int .i64 many] w fun e w' => e = .returned (.tuple #[.int .i64 n, .bool b]) ∧ Touch [] w w' := by
  rcases hA : Lib.atoiAll s.data.toList with v | _ | _
  · have h0 : 0 < s.size := by
      rcases Nat.eq_zero_or_pos s.size with h | h
      · have hn : s.data.toList = [] := List.length_eq_zero_iff.1 (by rw [Array.length_toList]; exact h)
        rw [hn] at hA
        cases hA
      · exact h
    obtain ⟨c0, hc⟩ : ∃ c0, s[0]'h0 = c0 := ⟨_, rfl⟩
    have hix : ∀ W, (Instr.index 9 (.string s) (.int .i64 0)).run Tryd.prog W = .ok (.int .u8 (c0.toNat : Int)) W := fun W => by
      rw [run_index_string W _ s _ _ (by kernel_rfl)]
      simp [h0, hc]
    refine ⟨v, decide ((s.size : Int) ≤ many) && (decide ((c0.toNat : Int) ≥ 48) && decide ((c0.toNat : Int) ≤ 57)), ?_, ?_⟩
    · intro hb
      rw [Bool.and_eq_true] at hb
      have hsz := of_decide_eq_true hb.1
      have := atoi_lt _ v hA
      rw [Array.length_toList] at this
      exact Nat.lt_of_lt_of_le this (Nat.pow_le_pow_right (by decide) (by have : s.data.size = s.size := rfl; omega))
    · intro w _ _
      have HA := Lib.hid (Tryd.strconv_Atoi_ok s (by omega) v hA w)
      clear hA hc
      generalize (many : Int) = mI
      generalize (c0.toNat : Int) = cI at hix
      rcases d0 : decide ((s.size : Int) ≤ mI) with _ | _ <;> rcases d1 : decide (cI ≥ 48) with _ | _ <;> rcases d2 : decide (cI ≤ 57) with _ | _
      all_goals
        go_enter Tryd.func29, Tryd.ntmps29
        go_wp2_with fail
        refine HA.out.mono ?_
        rintro _ w1 ⟨rfl, hw⟩
        have t1 : Touch [] w w1 := by
          rcases hw with rfl | ⟨t, rfl⟩
          · exact Touch.refl _ _
          · exact touch_bytes w t
        clear hw
        go_wp2_with fail
        go_quiet (fail)
        go_wp2
        go_ret2
        exact ⟨rfl, t1.drewN _⟩
  · refine ⟨0, false, (by simp), ?_⟩
    rintro w ⟨ev, hv, hev⟩ _
    have HA := Lib.hid (Any.strconv_Atoi_syntax Tryd.laysC172 s (by omega) hA ev w hv hev)
    clear hA hv hev
    generalize (many : Int) = mI
    go_enter Tryd.func29, Tryd.ntmps29
    go_wp2_with fail
    refine HA.out.mono ?_
    rintro _ w1 ⟨N, rfl, _, _, hb⟩
    have ht : Touch [] w w1 := Touch.of_below hb _
    clear hb HA
    go_wp2_with fail
    go_quiet (fail)
    go_wp2
    go_ret2
    exact ⟨rfl, ht.drewN _⟩
  · refine ⟨Lib.atoiSat s.data.toList, false, (by simp), ?_⟩
    rintro w _ ⟨ev, hv, hev⟩
    have HA := Lib.hid (Any.strconv_Atoi_range Tryd.laysC172 s (by omega) hA ev w hv hev)
    obtain ⟨v, hvv⟩ : ∃ v, Lib.atoiSat s.data.toList = v := ⟨_, rfl⟩
    rw [hvv] at HA ⊢
    clear hA hv hev hvv
    generalize (many : Int) = mI
    go_enter Tryd.func29, Tryd.ntmps29
    go_wp2_with fail
    refine HA.out.mono ?_
    rintro _ w1 ⟨N, rfl, _, _, hb⟩
    have ht : Touch [] w w1 := Touch.of_below hb _
    clear hb HA
    go_wp2_with fail
    go_quiet (fail)
    go_wp2
    go_ret2
    exact ⟨rfl, ht.drewN _⟩

theorem sc_down2 {m t q J : Nat} {i : Int} (hm : m < 9007199254740992) (hl : m.log2 + J < 2098) (h : ScAt m t q i) (hi : i < 0) (hi2 : (t : Int) - i ≤ J) : ∃ p, ScAt m t p (i + 1) ∧ floatBits .quo .f64 q 4611686018427387904 = some p := by
  obtain ⟨j, hq, hv, hj⟩ := h
  obtain ⟨k, rfl⟩ : ∃ k, j = k + 1 := ⟨j - 1, by omega⟩
  obtain ⟨p, hp, hpv⟩ := Fl.rung_of m k hm (.inr (by omega))
  have hdiv := Fl.div_two hq hp (by rw [hpv, hv, Nat.pow_succ, ← Nat.mul_assoc, Nat.mul_comm])
  rw [Fl.word_false, Fl.word_false] at hdiv
  exact ⟨p, ⟨k, hp, hpv, by omega⟩, hdiv⟩

set_option maxHeartbeats 2000000 in
theorem scaled_gen (m t r q0 n : Nat) (hm : m < 9007199254740992) (hlog : m.log2 + t < 2098) (hl2 : m.log2 + (1074 + n) < 2098) (hv : Fl.Nv r = m * 2 ^ t) (hq0 : q0 < 9218868437227405312) (hv0 : Fl.Nv q0 = m * 2 ^ (1074 + n)) (K : Int) (hK : K = (t : Int) - 1074 - n) (w : World) :
    Calls Tryd.prog 32 #[.float .f64 q0, .int .i64 K] w fun e w' => e = .returned (.float .f64 r) ∧ w = w' := by
  have hst : ScAt m t q0 K := ⟨1074 + n, hq0, hv0, by omega⟩
  have hend : ∀ q, ScAt m t q 0 → q = r := by
    rintro q ⟨j, hq, hqv, hj⟩
    refine Fl.Nv_inj ?_
    rw [hqv, hv, show j = t by omega]
  have HV := Lib.hid hv
  clear hv hv0
  have ht : t < 2098 := by omega
  have hn : n < 2098 := by omega
  go_enter Tryd.func32, Tryd.ntmps32
  go_wp2_with fail
  go_loop [0, 1] (fun v i => ∃ (q : Nat) (k : Int), v = .float .f64 q ∧ i = .int .i64 k ∧ ScAt m t q k ∧ k ≤ (t : Int) ∧ (0 ≤ k ∨ (t : Int) - 1074 - n ≤ k)) (fun _ i => match i with | .int _ k => k.toNat | _ => 0)
  case atStart => exact ⟨q0, _, rfl, rfl, hst, by omega, by omega⟩
  case round =>
    obtain ⟨q, k, rfl, rfl, hS, hk0, hk1⟩ := hrel
    by_cases hk : 0 < k
    · obtain ⟨p, hp, hmul⟩ := sc_up hm hlog hS hk
      have hrun := fun W => run_float_arith (P := Tryd.prog) W .mul 40 .f64 q 4611686018427387904 p hmul
      clear hmul
      go_wp2_with fail
      refine ⟨⟨p, k - 1, rfl, ?_, hp, by omega, by omega⟩, ?_⟩
      · go_num
      · show (k - 1).toNat < k.toNat
        omega
    · go_wp2_with fail
      go_loop [0, 1] (fun v i => ∃ (q : Nat) (k : Int), v = .float .f64 q ∧ i = .int .i64 k ∧ ScAt m t q k ∧ k ≤ 0 ∧ (k = 0 ∨ (t : Int) - 1074 - n ≤ k)) (fun _ i => match i with | .int _ k => (-k).toNat | _ => 0)
      case atStart => exact ⟨q, k, rfl, rfl, hS, by omega, by omega⟩
      case round =>
        clear hS hk0 hk1 hk
        obtain ⟨q, k, rfl, rfl, hS, hk0, hk1⟩ := hrel
        by_cases hk : k < 0
        · obtain ⟨p, hp, hdiv⟩ := sc_down2 (J := 1074 + n) hm hl2 hS hk (by omega)
          have hrun := fun W => run_float_arith (P := Tryd.prog) W .quo 40 .f64 q 4611686018427387904 p hdiv
          clear hdiv
          go_wp2_with fail
          refine ⟨⟨p, k + 1, rfl, ?_, hp, by omega, by omega⟩, ?_⟩
          · go_num
          · show (-(k + 1)).toNat < (-k).toNat
            omega
        · have hk3 : k = 0 := by omega
          subst hk3
          have hqr := hend q hS
          subst hqr
          go_wp2_with fail
          go_ret
          exact ⟨rfl, rfl⟩

end Go.Proofs.YtibifcchmccknaaDoor
