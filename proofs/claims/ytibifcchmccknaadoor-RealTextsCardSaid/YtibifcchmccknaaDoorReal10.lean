/- The contracts of whole, scaled and Copysign. -/
import Derived.Test.YtibifcchmccknaaDoorReal6
namespace Go.Proofs.YtibifcchmccknaaDoor
open Go.RowKit

theorem touch_bytes (w : World) (t : ByteArray) : Touch [] w (Lib.bytesWorld w 5 t) := by
  exact Touch.of_below (Lib.bytesWorld_below w 5 t) _
set_option maxRecDepth 100000 in
theorem whole_ok (s : ByteArray) (n : Int) (hl : s.size ≤ 18) (h : Lib.atoi s.data.toList = some n) (h0 : 0 < s.size) (c0 : UInt8) (hc : s[0]'h0 = c0) (h48 : 48 ≤ c0.toNat) (h57 : c0.toNat ≤ 57) (many : Int) (hm : (s.size : Int) ≤ many) (w : World) :
    Calls Tryd.prog 29 #[.string s, .int .i64 many] w fun e w' => e = .returned (.tuple #[.int .i64 n, .bool true]) ∧ Touch [] w w' := by
  have HA := Lib.hid (Tryd.strconv_Atoi s n hl h w)
  have hix : ∀ W, (Instr.index 9 (.string s) (.int .i64 0)).run Tryd.prog W = .ok (.int .u8 (c0.toNat : Int)) W := fun W => by
    rw [run_index_string W _ s _ _ (by kernel_rfl)]
    simp [h0, hc]
  have d0 : decide ((s.size : Int) ≤ many) = true := decide_eq_true hm
  have d1 : decide ((c0.toNat : Int) ≥ 48) = true := decide_eq_true (by omega)
  have d2 : decide ((c0.toNat : Int) ≤ 57) = true := decide_eq_true (by omega)
  clear h hc
  go_enter Tryd.func29, Tryd.ntmps29
  go_wp2_with fail
  refine HA.out.mono ?_
  rintro _ w1 ⟨rfl, t, rfl⟩
  go_wp2_with fail
  go_quiet (fail)
  go_wp2
  go_ret2
  exact ⟨rfl, (touch_bytes w t).drewN _⟩

set_option maxRecDepth 100000 in
theorem whole_no (s : ByteArray) (hl : s.size ≤ 18) (h : Lib.atoi s.data.toList = none) (ev : Value) (many : Int) (w : World) (hv : w.cell? ⟨4, 0, none⟩ = some ev) (hev : ev = .nilIface ∨ ∃ te pe, ev = .iface te pe) :
    Calls Tryd.prog 29 #[.string s, .int .i64 many] w fun e w' => e = .returned (.tuple #[.int .i64 0, .bool false]) ∧ Touch [] w w' := by
  have HA := Lib.hid (Tryd.strconv_Atoi_err s hl h ev w hv hev)
  clear h hv hev
  go_enter Tryd.func29, Tryd.ntmps29
  go_wp2_with fail
  refine HA.out.mono ?_
  rintro _ w1 ⟨N, rfl, _, _, hb⟩
  have ht : Touch [] w w1 := Touch.of_below hb _
  clear hb HA
  go_wp2_with fail
  go_quiet (fail)
  go_wp2
  go_ret2
  exact ⟨rfl, ht.drewN _⟩

set_option maxRecDepth 100000 in
theorem copysign_any (x : Nat) (hx : x < 9223372036854775808) (w : World) : Calls Tryd.prog 33 #[.float .f64 x, .float .f64 13830554455654793216] w fun e w' => e = .returned (.float .f64 (9223372036854775808 + x)) ∧ w = w' := by
  have h1 := run_tobits x
  have h2 := run_tobits 13830554455654793216
  have h3 := run_frombits (9223372036854775808 + (x : Int))
  rw [show (9223372036854775808 + (x : Int)).toNat = 9223372036854775808 + x by omega] at h3
  have e1 : bits BinOp.andNot IntKind.u64 (x : Int) 9223372036854775808 = (x : Int) := by
    have := Go.u64_andNot_nat x 9223372036854775808 (by omega) (by omega)
    rw [show ((9223372036854775808 : Nat) : Int) = 9223372036854775808 from rfl] at this
    rw [this, show (18446744073709551615 - 9223372036854775808 : Nat) = 2 ^ 63 - 1 from rfl, Nat.and_two_pow_sub_one_eq_mod, Nat.mod_eq_of_lt hx]
  have e2 : bits BinOp.and IntKind.u64 13830554455654793216 9223372036854775808 = 9223372036854775808 := by decide +kernel
  have e3 : bits BinOp.or IntKind.u64 (x : Int) 9223372036854775808 = ((9223372036854775808 + x : Nat) : Int) := by
    have h := Go.u64_or_nat x 9223372036854775808 (by omega) (by omega)
    rw [show ((9223372036854775808 : Nat) : Int) = 9223372036854775808 from rfl] at h
    have e := Nat.two_pow_add_eq_or_of_lt (i := 63) hx 1
    rw [Nat.mul_one] at e
    rw [h, Nat.or_comm]
    exact congrArg Nat.cast e.symm
  go_enter Tryd.func33, Tryd.ntmps33
  go_wp2_with (simp only [e1, e2, e3])
  go_ret
  exact ⟨rfl, rfl⟩

/-- how far scaled has come: m is odd, the number is m * 2 ^ j, and i steps are left up to t -/
def ScAt (m t q : Nat) (i : Int) : Prop := ∃ j : Nat, q < 9218868437227405312 ∧ Fl.Nv q = m * 2 ^ j ∧ (j : Int) + i = t
theorem sc_up {m t q : Nat} {i : Int} (hm : m < 9007199254740992) (hl : m.log2 + t < 2098) (h : ScAt m t q i) (hi : 0 < i) : ∃ p, ScAt m t p (i - 1) ∧ floatBits .mul .f64 q 4611686018427387904 = some p := by
  obtain ⟨j, hq, hv, hj⟩ := h
  obtain ⟨p, hp, hpv⟩ := Fl.rung_of m (j + 1) hm (.inr (by omega))
  have hmul := Fl.mul_two hq hp (by rw [hpv, hv, Nat.pow_succ, ← Nat.mul_assoc, Nat.mul_comm])
  rw [Fl.word_false, Fl.word_false] at hmul
  exact ⟨p, ⟨j + 1, hp, hpv, by omega⟩, hmul⟩
theorem sc_down {m t q : Nat} {i : Int} (hm : m < 9007199254740992) (hl : m.log2 + 1074 < 2098) (h : ScAt m t q i) (hi : i < 0) (hi2 : (t : Int) - i ≤ 1074) : ∃ p, ScAt m t p (i + 1) ∧ floatBits .quo .f64 q 4611686018427387904 = some p := by
  obtain ⟨j, hq, hv, hj⟩ := h
  obtain ⟨k, rfl⟩ : ∃ k, j = k + 1 := ⟨j - 1, by omega⟩
  obtain ⟨p, hp, hpv⟩ := Fl.rung_of m k hm (.inr (by omega))
  have hdiv := Fl.div_two hq hp (by rw [hpv, hv, Nat.pow_succ, ← Nat.mul_assoc, Nat.mul_comm])
  rw [Fl.word_false, Fl.word_false] at hdiv
  exact ⟨p, ⟨k, hp, hpv, by omega⟩, hdiv⟩

set_option maxHeartbeats 2000000 in
theorem scaled_any (m t r q0 : Nat) (hm : m < 9007199254740992) (hm0 : m ≠ 0) (hr : r < 9218868437227405312) (hv : Fl.Nv r = m * 2 ^ t) (hq0 : q0 < 9218868437227405312) (hv0 : Fl.Nv q0 = m * Fl.U) (w : World) :
    Calls Tryd.prog 32 #[.float .f64 q0, .int .i64 ((t : Int) - 1074)] w fun e w' => e = .returned (.float .f64 r) ∧ w = w' := by
  have hlog : m.log2 + t < 2098 := by
    have hM : Fl.M r ≠ 0 := by
      intro h
      rw [Fl.Nv, h, Nat.zero_mul] at hv
      rcases Nat.mul_eq_zero.1 hv.symm with h1 | h1
      · exact hm0 h1
      · exact absurd h1 (Nat.ne_of_gt (Nat.two_pow_pos _))
    have e1 := Fl.log2_mul_pow (Fl.M r) (Fl.E r) hM
    have e2 := Fl.log2_mul_pow m t hm0
    rw [← hv] at e2
    rw [show Fl.M r * 2 ^ Fl.E r = Fl.Nv r from rfl] at e1
    have h3 := (Fl.log_M r).resolve_left hM
    have := Fl.E_le hr
    omega
  have hl2 : m.log2 + 1074 < 2098 := by
    have : m.log2 < 53 := (Nat.log2_lt hm0).2 (by simpa using hm)
    omega
  have hst : ScAt m t q0 ((t : Int) - 1074) := ⟨1074, hq0, by rw [hv0, Fl.U_eq, Fl.B_eq], by omega⟩
  have hend : ∀ q, ScAt m t q 0 → q = r := by
    rintro q ⟨j, hq, hqv, hj⟩
    refine Fl.Nv_inj ?_
    rw [hqv, hv, show j = t by omega]
  have HV := Lib.hid hv
  clear hv hv0
  have ht : t < 2098 := by omega
  go_enter Tryd.func32, Tryd.ntmps32
  go_wp2_with fail
  go_loop [0, 1] (fun v i => ∃ (q : Nat) (k : Int), v = .float .f64 q ∧ i = .int .i64 k ∧ ScAt m t q k ∧ k ≤ (t : Int) ∧ (0 ≤ k ∨ (t : Int) - 1074 ≤ k)) (fun _ i => match i with | .int _ k => k.toNat | _ => 0)
  case atStart => exact ⟨q0, _, rfl, rfl, hst, by omega, by omega⟩
  case round =>
    obtain ⟨q, k, rfl, rfl, hS, hk0, hk1⟩ := hrel
    by_cases hk : 0 < k
    · obtain ⟨p, hp, hmul⟩ := sc_up hm hlog hS hk
      have hrun := fun W => run_float_arith (P := Tryd.prog) W .mul 40 .f64 q 4611686018427387904 p hmul
      clear hmul
      go_wp2_with fail
      refine ⟨⟨p, k - 1, rfl, ?_, hp, by omega, by omega⟩, ?_⟩
      · go_num
      · show (k - 1).toNat < k.toNat
        omega
    · go_wp2_with fail
      go_loop [0, 1] (fun v i => ∃ (q : Nat) (k : Int), v = .float .f64 q ∧ i = .int .i64 k ∧ ScAt m t q k ∧ k ≤ 0 ∧ (k = 0 ∨ (t : Int) - 1074 ≤ k)) (fun _ i => match i with | .int _ k => (-k).toNat | _ => 0)
      case atStart => exact ⟨q, k, rfl, rfl, hS, by omega, by omega⟩
      case round =>
        clear hS hk0 hk1 hk
        obtain ⟨q, k, rfl, rfl, hS, hk0, hk1⟩ := hrel
        by_cases hk : k < 0
        · obtain ⟨p, hp, hdiv⟩ := sc_down hm hl2 hS hk (by omega)
          have hrun := fun W => run_float_arith (P := Tryd.prog) W .quo 40 .f64 q 4611686018427387904 p hdiv
          clear hdiv
          go_wp2_with fail
          refine ⟨⟨p, k + 1, rfl, ?_, hp, by omega, by omega⟩, ?_⟩
          · go_num
          · show (-(k + 1)).toNat < (-k).toNat
            omega
        · have hk3 : k = 0 := by omega
          subst hk3
          have hqr := hend q hS
          subst hqr
          go_wp2_with fail
          go_ret
          exact ⟨rfl, rfl⟩

end Go.Proofs.YtibifcchmccknaaDoor
