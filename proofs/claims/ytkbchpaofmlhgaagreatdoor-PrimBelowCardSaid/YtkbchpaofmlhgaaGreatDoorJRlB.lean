import Derived.Test.YtkbchpaofmlhgaaGreatDoorJRlA
import Derived.Test.YtkbchpaofmlhgaaGreatDoorJFloatA
import Derived.Test.YtkbchpaofmlhgaaGreatDoorShelf7
import Derived.Lib.ItoaMem
import Derived.Lib.AppendIntMem
/- The contracts of package real: odd, Text, To (collected by mkrealp.py out of XReal3, XReal4, XReal6). -/
namespace Go.Proofs.YtkbchpaofmlhgaaGreatDoor.Rl
open Go.RowKit Go.Sort Go.Lib

theorem fin_nat {r : Nat} (h : r < 9218868437227405312) : Fl.fin r := by unfold Fl.fin Fl.rg; omega
/-- what is rounded down -/
def floW (q : Nat) : Nat := Ieee.double.write ((Ieee.double.read q).integral .down)
theorem floW_spec {q : Nat} (h : q < 9218868437227405312) : floW q < 9218868437227405312 ∧ Fl.Nv (floW q) = Fl.Iv q * Fl.U := by
  obtain ⟨p, hp, hv, he⟩ := Fl.floor_word h
  rw [Fl.word_false, Fl.word_false] at he
  unfold floW
  rw [he]
  exact ⟨hp, hv⟩
theorem Floor_pos (q : Nat) (h : q < 9218868437227405312) (w : World) : Calls Tryz.prog 219 #[.float .f64 q] w fun e w' => e = .returned (.float .f64 (floW q)) ∧ w = w' :=
  floor_any q _ w w (run_floor q (fin_nat h) w)
theorem order_pos {r q : Nat} (hr : r < 9218868437227405312) (hq : q < 9218868437227405312) : FloatKind.f64.format.order r q = some (compare (Fl.Nv r) (Fl.Nv q)) := by
  have := Fl.order_pos hr hq
  rw [Fl.word_false, Fl.word_false] at this
  exact this
theorem is_whole {q : Nat} (h : q < 9218868437227405312) : (FloatKind.f64.format.order q (floW q) != some .eq) = !(Fl.Nv q % Fl.U == 0) := by
  obtain ⟨h1, h2⟩ := floW_spec h
  rw [order_pos h h1, h2]
  have hd := Nat.div_add_mod (Fl.Nv q) Fl.U
  have he : Fl.Iv q * Fl.U = Fl.U * (Fl.Nv q / Fl.U) := by unfold Fl.Iv; exact Nat.mul_comm _ _
  by_cases h0 : Fl.Nv q % Fl.U = 0
  · rw [h0, Nat.add_zero] at hd
    rw [he, hd, Nat.compare_eq_eq.2 rfl, h0]
    rfl
  · rw [beq_eq_false_iff_ne.2 h0, Nat.compare_eq_gt.2 (by rw [he]; omega)]
    rfl
/-- the two steps -/
theorem twice_step {q : Nat} (h : q < 9218868437227405312) (h0 : Fl.Nv q % Fl.U ≠ 0) : ∃ p, p < 9218868437227405312 ∧ Fl.Nv p = 2 * Fl.Nv q ∧ q < p ∧ floatBits .mul .f64 q 4611686018427387904 = some p := by
  have hE := Fl.small_E h0
  rw [Fl.B_eq] at hE
  obtain ⟨p, hp, hv⟩ := Fl.double_rung (r := q) (by omega)
  have hm := Fl.mul_two h hp hv
  rw [Fl.word_false, Fl.word_false] at hm
  refine ⟨p, hp, hv, ?_, hm⟩
  rcases Nat.lt_trichotomy q p with h1 | h1 | h1
  · exact h1
  · subst h1
    have : Fl.Nv q = 0 := by omega
    rw [this, Nat.zero_mod] at h0
    exact absurd rfl h0
  · have := Fl.Nv_lt h1; omega
theorem half_step {q : Nat} (h : q < 9218868437227405312) (h0 : 9223372036854775808 * Fl.U ≤ Fl.Nv q) : ∃ p, p < 9218868437227405312 ∧ Fl.Nv q = 2 * Fl.Nv p ∧ p < q ∧ Fl.Nv p % Fl.U = 0 ∧ floatBits .quo .f64 q 4611686018427387904 = some p := by
  have hE : Fl.B + 10 < Fl.E q := Fl.big_E (by rw [show 53 + (Fl.B + 10) = 63 + Fl.B by omega, Nat.pow_add, ← Fl.U_eq]; exact h0)
  have hU := Fl.U_pos
  obtain ⟨p, hp, hv⟩ := Fl.half_rung h (by omega)
  have hm := Fl.div_two h hp hv
  rw [Fl.word_false, Fl.word_false] at hm
  refine ⟨p, hp, hv, ?_, ?_, hm⟩
  · rcases Nat.lt_trichotomy p q with h1 | h1 | h1
    · exact h1
    · subst h1
      have : Fl.Nv p = 0 := by omega
      omega
    · have := Fl.Nv_lt h1; omega
  · obtain ⟨k, hk⟩ : ∃ k, Fl.E q = (Fl.B + k) + 1 := ⟨Fl.E q - Fl.B - 1, by omega⟩
    have e : Fl.Nv p = Fl.M q * 2 ^ k * Fl.U := by
      have h2 : 2 * Fl.Nv p = 2 * (Fl.M q * 2 ^ k * Fl.U) := by
        rw [← hv, Fl.Nv, hk, Nat.pow_succ, Nat.pow_add, ← Fl.U_eq, Nat.mul_comm Fl.U, ← Nat.mul_assoc, Nat.mul_comm _ 2, Nat.mul_assoc (Fl.M q)]
      omega
    rw [e, Nat.mul_mod_left]
theorem word_63 : (4890909195324358656 : Nat) < 9218868437227405312 ∧ Fl.Nv 4890909195324358656 = 9223372036854775808 * Fl.U := by
  refine ⟨by decide, ?_⟩
  have e1 : Fl.M 4890909195324358656 = 4503599627370496 := by decide
  have e2 : Fl.E 4890909195324358656 = 1085 := by decide
  rw [Fl.Nv, e1, e2, Fl.U_eq, show 1085 = 11 + Fl.B by rw [Fl.B_eq], Nat.pow_add, ← Nat.mul_assoc]
theorem is_big {q : Nat} (h : q < 9218868437227405312) : (FloatKind.f64.format.order q 4890909195324358656 == some .gt || FloatKind.f64.format.order q 4890909195324358656 == some .eq) = decide (9223372036854775808 * Fl.U ≤ Fl.Nv q) := by
  rw [order_pos h word_63.1, word_63.2]
  rcases Nat.lt_trichotomy (Fl.Nv q) (9223372036854775808 * Fl.U) with h1 | h1 | h1
  · rw [Nat.compare_eq_lt.2 h1, decide_eq_false (by omega)]; rfl
  · rw [h1, Nat.compare_eq_eq.2 rfl, decide_eq_true (by omega)]; rfl
  · rw [Nat.compare_eq_gt.2 h1, decide_eq_true (by omega)]; rfl
/-- how far odd has come -/
def OddAt (r q a b : Nat) : Prop := q < 9218868437227405312 ∧ Fl.Nv q * 2 ^ a = Fl.Nv r * 2 ^ b ∧ 0 < q
set_option maxHeartbeats 2000000 in
theorem odd_any (r : Nat) (hr : r < 9218868437227405312) (h0 : 0 < r) (x : Nat) (hx : x < 18446744073709551616) (hrx : Fl.rg x = r) (w : World) (hT : TzTab w) :
    Calls Tryz.prog 223 #[.float .f64 x] w fun e w' => (∃ m t : Nat, m % 2 = 1 ∧ Fl.Nv r = m * 2 ^ t ∧ m < 9223372036854775808 ∧ e = .returned (.tuple #[.int .u64 m, .int .i64 ((t : Int) - 1074)])) ∧ w = w' := by
  have HT := Lib.hid hT
  clear hT
  go_enter Tryz.func223, Tryz.ntmps223
  go_wp2_with fail
  refine (abs_any x hx _).mono ?_
  rintro _ _ ⟨rfl, rfl⟩
  rw [hrx]
  clear hrx hx
  go_wp2_with fail
  go_loop [0, 4] (fun v i => ∃ q b : Nat, v = .float .f64 q ∧ i = .int .i64 (-(b : Int)) ∧ b ≤ 1074 ∧ OddAt r q 0 b) (fun v _ => match v with | .float _ q => 9218868437227405312 - q | _ => 0)
  case atStart => exact ⟨r, 0, rfl, rfl, by omega, hr, rfl, h0⟩
  case round =>
    obtain ⟨q, b, rfl, rfl, hb, hO⟩ := hrel
    have hw := is_whole hO.1
    have hq := hO.1
    by_cases hz : Fl.Nv q % Fl.U = 0
    · rw [hz] at hw
      have hw' : (FloatKind.f64.format.order q (floW q) != some .eq) = false := hw
      clear hw
      go_wp2_with fail
      refine (Floor_pos q hq _).mono ?_
      rintro _ _ ⟨rfl, rfl⟩
      go_wp2_with fail
      go_loop [0, 4] (fun v i => ∃ q a : Nat, v = .float .f64 q ∧ i = .int .i64 ((a : Int) - b) ∧ q + a ≤ 9218868437227405312 ∧ Fl.Nv q % Fl.U = 0 ∧ OddAt r q a b) (fun v _ => match v with | .float _ q => q | _ => 0)
      case atStart => exact ⟨q, 0, rfl, by simp, by omega, hz, hO⟩
      case round =>
        clear hz hO hq hw'
        obtain ⟨q, a, rfl, rfl, ha, hz, hO⟩ := hrel
        have hq := hO.1
        have hw := is_big hq
        by_cases hbig : 9223372036854775808 * Fl.U ≤ Fl.Nv q
        · obtain ⟨p, hp, hv, hqp, hz2, hm⟩ := half_step hq hbig
          have hrun := fun W => run_float_arith (P := Tryz.prog) W .quo 140 .f64 q 4611686018427387904 p hm
          rw [decide_eq_true hbig] at hw
          clear hbig hm hz
          go_wp2_with fail
          refine ⟨⟨p, a + 1, rfl, ?_, by omega, hz2, hp, ?_, ?_⟩, ?_⟩
          · go_num
          · rw [Nat.pow_succ, ← hO.2.1, hv, Nat.mul_comm 2 (Fl.Nv p), Nat.mul_assoc, Nat.mul_comm 2]
          · have h1 := hO.2.2
            rcases Nat.eq_zero_or_pos p with h2 | h2
            · subst h2
              have h3 : Fl.Nv 0 = 0 := by decide
              have h4 := Fl.Nv_lt h1
              omega
            · exact h2
          · exact hqp
        · rw [decide_eq_false hbig] at hw
          obtain ⟨m, hm⟩ : ∃ m, Fl.Iv q = m := ⟨_, rfl⟩
          have hNm : Fl.Nv q = m * Fl.U := by rw [← hm]; exact (Fl.div_back _ _ hz).symm
          have hpos : 0 < Fl.Nv q := by
            have h3 : Fl.Nv 0 = 0 := by decide
            have h4 := Fl.Nv_lt hO.2.2
            omega
          have hm0 : m ≠ 0 := by
            intro h
            rw [hNm, h, Nat.zero_mul] at hpos
            omega
          have hm63 : m < 9223372036854775808 := by
            rw [hNm] at hbig
            exact Nat.lt_of_mul_lt_mul_right (Nat.lt_of_not_le hbig)
          have hconv : floatToIntVal .f64 q .u64 = some (m : Int) := by
            have h1 : (FloatKind.f64.decode q).toInt .zero = some (m : Int) := by
              have h2 := Fl.toInt_fin (fin_nat hq)
              have e1 : Fl.sg q = false := by unfold Fl.sg; rw [show q / 9223372036854775808 = 0 by omega]; rfl
              have e2 : Fl.rg q = q := by unfold Fl.rg; omega
              rw [e1, e2, hm] at h2
              exact h2
            unfold floatToIntVal
            rw [h1]
            have e3 : IntKind.min .u64 = 0 := by decide
            have e4 : IntKind.max .u64 = 18446744073709551615 := by decide
            dsimp only
            rw [e3, e4, if_pos (by omega)]
          have hc := fun W => run_convert_float_int (P := Tryz.prog) W 140 104 .f64 .u64 q (m : Int) (by kernel_rfl) (by kernel_rfl) hconv
          obtain ⟨n, hn, hk⟩ := Lib.ctzFrom_spec 64 m (by omega) (by omega)
          have hctz : Lib.ctz 64 m = Lib.ctzFrom 64 m := by unfold Lib.ctz; rw [if_neg hm0]
          obtain ⟨k, hke⟩ : ∃ k, Lib.ctzFrom 64 m = k := ⟨_, rfl⟩
          rw [hke] at hn hk hctz
          have HN := Lib.hid hn
          have HM := Lib.hid hNm
          clear hconv hke hbig hpos hn hm hNm
          go_wp2_with fail
          refine (tz_any m (by omega) hm0 _ HT.out).mono ?_
          rintro _ _ ⟨rfl, rfl⟩
          rw [hctz]
          go_wp2_with fail
          have hn := HN.out
          have hNm := HM.out
          have h2 := hO.2.1
          go_ret2
          have hd : m / 2 ^ k = 2 * n + 1 := by rw [hn]; exact Nat.mul_div_cancel_left _ (Nat.two_pow_pos k)
          refine ⟨⟨2 * n + 1, k + 1074 + a - b, by omega, ?_, ?_, ret2 (vint ?_) (vint (by omega))⟩, rfl⟩
          · obtain ⟨t, ht⟩ : ∃ t, k + 1074 + a - b = t := ⟨_, rfl⟩
            have ht2 : k + Fl.B + a = t + b := by rw [Fl.B_eq]; omega
            rw [ht]
            refine Nat.eq_of_mul_eq_mul_right (Nat.two_pow_pos b) ?_
            rw [← h2, hNm, hn, Fl.U_eq, Nat.mul_assoc, ← Nat.pow_add, Nat.mul_assoc (2 * n + 1), ← Nat.pow_add, ← ht2, Nat.mul_comm (2 ^ k), Nat.mul_assoc, ← Nat.pow_add, Nat.add_assoc]
          · rw [← hd]
            exact Nat.lt_of_le_of_lt (Nat.div_le_self _ _) hm63
          · rw [← hd]
            exact (Int.natCast_ediv m (2 ^ k)).symm
    · have hlt : b < 1074 := by
        rcases Nat.lt_or_ge b 1074 with h | h
        · exact h
        · exfalso
          apply hz
          have h2 := hO.2.1
          rw [Nat.pow_zero, Nat.mul_one, show b = Fl.B by rw [Fl.B_eq]; omega, ← Fl.U_eq] at h2
          rw [h2, Nat.mul_mod_left]
      obtain ⟨p, hp, hv, hqp, hm⟩ := twice_step hq hz
      have hrun := fun W => run_float_arith (P := Tryz.prog) W .mul 140 .f64 q 4611686018427387904 p hm
      rw [beq_eq_false_iff_ne.2 hz] at hw
      have hw' : (FloatKind.f64.format.order q (floW q) != some .eq) = true := hw
      clear hw hz hm
      go_wp2_with fail
      refine (Floor_pos q hq _).mono ?_
      rintro _ _ ⟨rfl, rfl⟩
      go_wp2_with fail
      refine ⟨⟨p, b + 1, rfl, ?_, by omega, hp, ?_, by omega⟩, ?_⟩
      · go_num
      · have h2 := hO.2.1
        rw [Nat.pow_zero, Nat.mul_one] at h2 ⊢
        rw [hv, h2, Nat.pow_succ, Nat.mul_comm 2, Nat.mul_assoc]
      · show 9218868437227405312 - p < 9218868437227405312 - q
        omega
theorem holds_zeroA (w : World) (T : TypeId) (nd : Nat) (hs : nd ≤ 24) : Holds (fun (b : UInt8) => Value.int .u8 (b.toNat : Int)) (w.alloc (.cells Lib.zeros24 T)) w.heap.size 0 (Array.replicate nd (0 : UInt8)) := fun j hj => by
  have hj' : j < nd := by simpa using hj
  refine ⟨?_, World.frozen?_alloc_new _ _ _ _⟩
  rw [World.cell?_alloc_new, zeros24_at _ (by omega), getElem!_pos _ j hj]
  simp
theorem fin_zero (w : World) (o : Obj) (dk : Array UInt8) (k : Nat) : ∃ os, (putRow (fun (b : UInt8) => Value.int .u8 (b.toNat : Int)) (w.alloc o) w.heap.size 0 dk).drewN k = grow (w.drewN k) os := by
  rw [alloc_eq_grow]
  obtain ⟨os', _, e⟩ := putRow_grow_new (fun (b : UInt8) => Value.int .u8 (b.toNat : Int)) w #[o] w.heap.size 0 dk (Nat.le_refl _)
  exact ⟨os', by rw [e]; rfl⟩
/-- the table of powers of ten -/
def PowTab (w : World) : Prop := Lib.TabIs Tryz.prog w "internal/strconv.uint64pow10" .u64 Lib.pow10Tab
set_option maxHeartbeats 6400000 in
set_option maxRecDepth 100000 in
theorem formatUint_in (u : Nat) (hu64 : u < 18446744073709551616) (w : World) (htab : PowTab w) :
    Calls Tryz.prog 243 #[.int .u64 u, .int .i64 10] w fun e w' => e = .returned (.string ⟨(Lib.decDigits u).toArray⟩) ∧ ∃ k os, w' = grow (w.drewN k) os := by
  by_cases hs : u < 100
  · go_enter Tryz.func243, Tryz.ntmps243
    go_wp2_with fail
    refine (Tryz.internal_strconv_small u hs _).mono ?_
    rintro _ _ ⟨rfl, rfl⟩
    go_wp2_with fail
    go_ret
    exact ⟨rfl, 0, #[], by simp [World.drewN_zero]⟩
  · have hu1 : 1 ≤ u := by omega
    have hnd20 : Lib.nDigits u ≤ 20 := by have := Lib.numDigits_eq u hu1 hu64; split at this <;> omega
    have hal : Tryz.prog.arrayLen 204 = 24 := by kernel_rfl
    have hsl1 : ∀ W, (Instr.sliceAt 204 (.pointer (some ⟨w.heap.size, 0, none⟩)) none (some (.int .i64 (Lib.nDigits u : Int))) none).run Tryz.prog W = .ok (.slice (some ⟨w.heap.size, 0, none⟩) (Lib.nDigits u) 24) W := fun W => by
      rw [run_sliceAt_array_h W 204 ⟨w.heap.size, 0, none⟩ (by kernel_rfl) .i64 (Lib.nDigits u : Int) (by omega) (by rw [hal]; omega)]
      go_simp
    have hH0 := holds_zeroA w 204 (Lib.nDigits u) (by omega)
    have hfmt := Tryz.internal_strconv_formatBase10 w.heap.size 0 24 u (Array.replicate (Lib.nDigits u) 0) (w.alloc (.cells Lib.zeros24 204)) hH0 (by rw [Array.size_replicate]; exact Lib.lt_pow_nDigits u) hu64 (by rw [Array.size_replicate]; omega)
    rw [Array.size_replicate] at hfmt
    have HH0 := Lib.hid hH0
    clear hH0 hal
    go_enter Tryz.func243, Tryz.ntmps243
    go_wp2_with fail
    refine (Tryz.internal_strconv_numDigits u hu1 hu64 _ (Lib.tabIs_alloc htab _)).mono ?_
    rintro _ _ ⟨rfl, rfl⟩
    go_wp2_with fail
    refine hfmt.mono ?_
    rintro e w' ⟨rfl, k, v', dk, rfl, hF⟩
    have hcv : (convert 66 9 (.slice (some ⟨w.heap.size, 0, none⟩) (Lib.nDigits u) 24)).run Tryz.prog ((putRow (fun (b : UInt8) => Value.int .u8 (b.toNat : Int)) (w.alloc (.cells Lib.zeros24 204)) w.heap.size 0 dk).drewN k) = .ok (.string ⟨(Lib.decDigits u).toArray⟩) ((putRow (fun (b : UInt8) => Value.int .u8 (b.toNat : Int)) (w.alloc (.cells Lib.zeros24 204)) w.heap.size 0 dk).drewN k) := by
      have h := run_convert_bytes_back (P := Tryz.prog) ((putRow (fun (b : UInt8) => Value.int .u8 (b.toNat : Int)) (w.alloc (.cells Lib.zeros24 204)) w.heap.size 0 dk).drewN k) 66 9 5 ⟨w.heap.size, 0, none⟩ 24 (Lib.decDigits u) (by kernel_rfl) (by kernel_rfl) (by kernel_rfl) (fun j hj => by
        rw [Lib.row_is_numeral hF j hj, Lib.add_plain, World.cell?_drewN]
        exact cell?_putRow (fun (b : UInt8) => Value.int .u8 (b.toNat : Int)) _ w.heap.size 0 _ dk HH0.out (by rw [hF.size, Array.size_replicate]) j (by rw [hF.size]; rw [Lib.decDigits_length] at hj; exact hj))
      rw [Lib.decDigits_length] at h
      exact h
    go_wp2
    go_ret
    obtain ⟨os, eo⟩ := fin_zero w (.cells Lib.zeros24 204) dk k
    exact ⟨rfl, k, os, eo⟩
theorem tab_touch {name : String} {k : IntKind} {zs : List Int} {w w' : World} (h : Lib.TabIs Tryz.prog w name k zs) (ht : Touch [] w w') : Lib.TabIs Tryz.prog w' name k zs := by
  unfold Lib.TabIs World.var? at *
  cases hg : Tryz.prog.globalNamed name with
  | none => simp [hg] at h
  | some g =>
    simp only [hg, Option.bind_some] at h ⊢
    have hlt : g < w.heap.size := by
      rcases Nat.lt_or_ge g w.heap.size with h' | h'
      · exact h'
      · rw [Array.getElem?_eq_none h'] at h; simp at h
    rw [ht.block g hlt (by simp)]
    exact h
theorem touch_grow (w : World) (k : Nat) (os : Array Obj) : Touch [] w (grow (w.drewN k) os) := Touch.of_below (Go.Lib.below_grow _ w (Nat.le_refl _) k os) _
theorem formatUint_any (u : Nat) (hu64 : u < 18446744073709551616) (w : World) (htab : PowTab w) :
    Calls Tryz.prog 224 #[.int .u64 u, .int .i64 10] w fun e w' => e = .returned (.string ⟨(Lib.decDigits u).toArray⟩) ∧ Touch [] w w' := by
  go_enter Tryz.func224, Tryz.ntmps224
  go_wp2_with fail
  refine (formatUint_in u hu64 _ htab).mono ?_
  rintro _ w1 ⟨rfl, k, os, rfl⟩
  go_wp2_with fail
  go_ret
  exact ⟨rfl, touch_grow _ _ _⟩
theorem t_bound {r m t : Nat} (hr : r < 9218868437227405312) (hm : m % 2 = 1) (h : Fl.Nv r = m * 2 ^ t) : t < 4000 := by
  have hm0 : m ≠ 0 := by omega
  have hE := Fl.E_le hr
  rcases Fl.log_M r with h0 | h0
  · rw [Fl.Nv, h0, Nat.zero_mul] at h
    rcases Nat.mul_eq_zero.1 h.symm with h1 | h1
    · exact absurd h1 hm0
    · exact absurd h1 (Nat.ne_of_gt (Nat.two_pow_pos _))
  · have hM : Fl.M r ≠ 0 := by
      intro h1
      rw [Fl.Nv, h1, Nat.zero_mul] at h
      rcases Nat.mul_eq_zero.1 h.symm with h1 | h1
      · exact absurd h1 hm0
      · exact absurd h1 (Nat.ne_of_gt (Nat.two_pow_pos _))
    have e1 := Fl.log2_mul_pow (Fl.M r) (Fl.E r) hM
    have e2 := Fl.log2_mul_pow m t hm0
    rw [← h] at e2
    rw [show Fl.M r * 2 ^ Fl.E r = Fl.Nv r from rfl] at e1
    omega
theorem dec_size (m : Nat) (h : m < 18446744073709551616) : (⟨(Lib.decDigits m).toArray⟩ : ByteArray).size ≤ 20 := by
  show (Lib.decDigits m).toArray.size ≤ 20
  rw [List.size_toArray, Lib.decDigits_length]
  rcases Nat.eq_zero_or_pos m with h0 | h0
  · subst h0; decide +kernel
  · have := Lib.numDigits_eq m h0 h
    split at this <;> omega
theorem itoa_size (n : Int) (h0 : -5000 ≤ n) (h1 : n ≤ 5000) : (⟨(Lib.itoa n).toArray⟩ : ByteArray).size ≤ 21 := by
  show (Lib.itoa n).toArray.size ≤ 21
  rw [List.size_toArray]
  rcases Int.lt_or_le n 0 with h | h
  · obtain ⟨u, rfl⟩ : ∃ u : Nat, n = -(u : Int) := ⟨n.natAbs, by omega⟩
    have := dec_size u (by omega)
    rw [Lib.itoa_neg u (by omega), List.length_cons]
    have e : (⟨(Lib.decDigits u).toArray⟩ : ByteArray).size = (Lib.decDigits u).length := by show (Lib.decDigits u).toArray.size = _; rw [List.size_toArray]
    omega
  · obtain ⟨u, rfl⟩ : ∃ u : Nat, n = (u : Int) := ⟨n.toNat, by omega⟩
    have := dec_size u (by omega)
    rw [Lib.itoa_nonneg]
    have e : (⟨(Lib.decDigits u).toArray⟩ : ByteArray).size = (Lib.decDigits u).length := by show (Lib.decDigits u).toArray.size = _; rw [List.size_toArray]
    omega
def sgnS (x : Nat) : ByteArray := if Fl.sg x then ⟨#[45]⟩ else ⟨#[]⟩
/-- the text of a number -/
def TextIs (x : Nat) (s : ByteArray) : Prop :=
  (nanB x ∧ s = ⟨#[110, 97, 110]⟩) ∨ (Fl.rg x = 9218868437227405312 ∧ s = sgnS x ++ ⟨#[105, 110, 102]⟩) ∨ (Fl.rg x = 0 ∧ s = sgnS x ++ ⟨#[48]⟩ ++ ⟨#[112]⟩ ++ ⟨#[48]⟩) ∨
  (Fl.rg x < 9218868437227405312 ∧ ∃ m t : Nat, m % 2 = 1 ∧ Fl.Nv (Fl.rg x) = m * 2 ^ t ∧ m < 9223372036854775808 ∧ t < 4000 ∧ s = sgnS x ++ ⟨(Lib.decDigits m).toArray⟩ ++ ⟨#[112]⟩ ++ ⟨(Lib.itoa ((t : Int) - 1074)).toArray⟩)
theorem order_nil {x : Nat} (h : Fl.rg x < 9218868437227405312) : (FloatKind.f64.format.order x 0 == some .eq) = (Fl.rg x == 0) := by
  have h0 : Fl.fin 0 := fin_nat (by omega)
  have ho : FloatKind.f64.format.order x 0 = _ := Fl.order_fin (x := x) (y := 0) h h0
  rw [ho, show Fl.Zv 0 = 0 by decide]
  by_cases hz : Fl.rg x = 0
  · have : Fl.Zv x = 0 := by unfold Fl.Zv; rw [hz, show Fl.Nv 0 = 0 by decide]; split <;> rfl
    rw [this, hz, Int.compare_eq_eq.2 rfl]; rfl
  · have hp : 0 < Fl.Nv (Fl.rg x) := by
      have := Fl.Nv_lt (r := 0) (r' := Fl.rg x) (by omega); omega
    have hne : Fl.Zv x ≠ 0 := by unfold Fl.Zv; split <;> omega
    rw [beq_eq_false_iff_ne.2 hz]
    rcases Int.lt_trichotomy (Fl.Zv x) 0 with h1 | h1 | h1
    · rw [Int.compare_eq_lt.2 h1]; rfl
    · exact absurd h1 hne
    · rw [Int.compare_eq_gt.2 h1]; rfl
set_option maxHeartbeats 6400000 in
set_option maxRecDepth 100000 in
theorem Text_any (a : Int) (w : World) (hT : TzTab w) (hP : PowTab w) :
    Calls Tryz.prog 169 #[.int .i64 a] w fun e w' => ∃ s, TextIs (bitsOf a) s ∧ e = .returned (.string s) ∧ Touch [] w w' := by
  obtain ⟨x, hx⟩ : ∃ x, bitsOf a = x := ⟨_, rfl⟩
  have hlt : x < 18446744073709551616 := by rw [← hx]; exact bitsOf_lt a
  have hN := number_any a
  rw [hx] at hN ⊢
  clear hx
  have hsx : sgnS x = if Fl.sg x then ⟨#[45]⟩ else ⟨#[]⟩ := rfl
  have ho := order_self x
  have HT := Lib.hid hT
  have HP := Lib.hid hP
  have HX := Lib.hid hlt
  clear hT hP hlt
  have hor : FloatKind.f64.format.order x x = Ieee.double.order x x := rfl
  obtain ⟨sx, hse⟩ : ∃ sx, sgnS x = sx := ⟨_, rfl⟩
  by_cases hnan : nanB x
  · rw [if_pos hnan] at ho
    rw [ho] at hor
    have hw : (FloatKind.f64.format.order x x != some .eq) = true := by rw [hor]; rfl
    have HR : Hid (TextIs x ⟨#[110, 97, 110]⟩) := .inl ⟨hnan, rfl⟩
    clear ho hor hnan hsx hse
    rcases hs : Fl.sg x with _ | _
    all_goals
      go_enter Tryz.func169, Tryz.ntmps169
      go_wp2_with fail
      refine (hN _).mono ?_
      rintro _ _ ⟨rfl, rfl⟩
      go_wp2_with fail
      refine (signbit_any x HX.out _).mono ?_
      rintro _ _ ⟨rfl, rfl⟩
      go_wp2_with fail
      go_ret
      exact ⟨_, HR.out, rfl, Touch.refl _ _⟩
  · rw [if_neg hnan] at ho
    rw [ho] at hor
    have hw : (FloatKind.f64.format.order x x != some .eq) = false := by rw [hor]; rfl
    have hn2 : Fl.rg x ≤ 9218868437227405312 := by unfold nanB at hnan; omega
    clear ho hor hnan
    by_cases hinf : Fl.rg x = 9218868437227405312
    · have HR : Hid (TextIs x (sx ++ ⟨#[105, 110, 102]⟩)) := .inr (.inl ⟨hinf, by rw [hse]⟩)
      have hi : (Fl.rg x == 9218868437227405312) = true := by rw [hinf]; rfl
      clear hinf hn2
      rcases hs : Fl.sg x with _ | _
      all_goals
        rw [hs] at hsx
        rw [hse] at hsx
        have hsx' : sx = _ := hsx
        subst hsx'
        clear hse
        go_enter Tryz.func169, Tryz.ntmps169
        go_wp2_with fail
        refine (hN _).mono ?_
        rintro _ _ ⟨rfl, rfl⟩
        go_wp2_with fail
        refine (signbit_any x HX.out _).mono ?_
        rintro _ _ ⟨rfl, rfl⟩
        go_wp2_with fail
        refine (isInf_any x HX.out _).mono ?_
        rintro _ _ ⟨rfl, rfl⟩
        go_wp2_with fail
        go_ret
        exact ⟨_, HR.out, rfl, Touch.refl _ _⟩
    · have hi : (Fl.rg x == 9218868437227405312) = false := beq_eq_false_iff_ne.2 hinf
      have hfin : Fl.rg x < 9218868437227405312 := by omega
      have hz := order_nil hfin
      have HF := Lib.hid hfin
      clear hinf hn2
      by_cases hzero : Fl.rg x = 0
      · have HR : Hid (TextIs x (sx ++ ⟨#[48]⟩ ++ ⟨#[112]⟩ ++ ⟨#[48]⟩)) := .inr (.inr (.inl ⟨hzero, by rw [hse]⟩))
        rw [hzero] at hz
        have hz' : (FloatKind.f64.format.order x 0 == some .eq) = true := hz
        clear hfin hzero hz
        rcases hs : Fl.sg x with _ | _
        all_goals
          rw [hs] at hsx
          rw [hse] at hsx
          have hsx' : sx = _ := hsx
          subst hsx'
          clear hse
          go_enter Tryz.func169, Tryz.ntmps169
          go_wp2_with fail
          refine (hN _).mono ?_
          rintro _ _ ⟨rfl, rfl⟩
          go_wp2_with fail
          refine (signbit_any x HX.out _).mono ?_
          rintro _ _ ⟨rfl, rfl⟩
          go_wp2_with fail
          refine (isInf_any x HX.out _).mono ?_
          rintro _ _ ⟨rfl, rfl⟩
          go_wp2_with fail
          go_ret
          exact ⟨_, HR.out, rfl, Touch.refl _ _⟩
      · rw [beq_eq_false_iff_ne.2 hzero] at hz
        have HR : Hid (∀ m t : Nat, m % 2 = 1 → Fl.Nv (Fl.rg x) = m * 2 ^ t → m < 9223372036854775808 → t < 4000 → TextIs x (sx ++ ⟨(Lib.decDigits m).toArray⟩ ++ ⟨#[112]⟩ ++ ⟨(Lib.itoa ((t : Int) - 1074)).toArray⟩)) :=
          fun m t h1 h2 h3 h4 => .inr (.inr (.inr ⟨hfin, m, t, h1, h2, h3, h4, by rw [hse]⟩))
        have HO : Hid (0 < Fl.rg x) := Nat.pos_of_ne_zero hzero
        clear hfin hzero
        rcases hs : Fl.sg x with _ | _
        all_goals
          rw [hs] at hsx
          rw [hse] at hsx
          have hsx' : sx = _ := hsx
          subst hsx'
          clear hse
          go_enter Tryz.func169, Tryz.ntmps169
          go_wp2_with fail
          refine (hN _).mono ?_
          rintro _ _ ⟨rfl, rfl⟩
          go_wp2_with fail
          refine (signbit_any x HX.out _).mono ?_
          rintro _ _ ⟨rfl, rfl⟩
          go_wp2_with fail
          refine (isInf_any x HX.out _).mono ?_
          rintro _ _ ⟨rfl, rfl⟩
          go_wp2_with fail
          refine (odd_any (Fl.rg x) HF.out HO.out x HX.out rfl _ HT.out).mono ?_
          rintro _ _ ⟨⟨m, t, h1, h2, h3, rfl⟩, rfl⟩
          have h4 := t_bound HF.out h1 h2
          have HR2 := HR.out m t h1 h2 h3 h4
          have HU := fun W => formatUint_any m (by omega) W
          have HI := fun W => Tryz.strconv_Itoa ((t : Int) - 1074) (by omega) (by omega) W
          have hz1 := dec_size m (by omega)
          have hz2 := itoa_size ((t : Int) - 1074) (by omega) (by omega)
          obtain ⟨sm, hsm⟩ : ∃ sm : ByteArray, ⟨(Lib.decDigits m).toArray⟩ = sm := ⟨_, rfl⟩
          obtain ⟨st, hst⟩ : ∃ st : ByteArray, ⟨(Lib.itoa ((t : Int) - 1074)).toArray⟩ = st := ⟨_, rfl⟩
          simp only [hsm, hst] at HR2 hz1 hz2 HU HI
          have HR3 := Lib.hid HR2
          clear h1 h2 HR HR2 hsm hst
          go_wp2_with fail
          refine (HU _ HP.out).mono ?_
          rintro _ w1 ⟨rfl, ht1⟩
          go_wp2_with fail
          refine (HI _ (tab_touch HP.out ht1)).mono ?_
          rintro _ _ ⟨rfl, k, os, rfl⟩
          have ht2 := ht1.trans (touch_grow w1 k os) (by simp)
          obtain ⟨w2, hw2⟩ : ∃ w2, grow (w1.drewN k) os = w2 := ⟨_, rfl⟩
          rw [hw2] at ht2 ⊢
          go_wp2_with fail
          go_ret
          exact ⟨_, HR3.out, rfl, ht2⟩
theorem beyond_num : Fl.Zv 4890909195324358656 = 9223372036854775808 * (Fl.U : Int) ∧ Fl.fin 4890909195324358656 := by
  have h := word_63
  refine ⟨?_, fin_nat h.1⟩
  unfold Fl.Zv
  rw [show Fl.sg 4890909195324358656 = false by decide, show Fl.rg 4890909195324358656 = 4890909195324358656 by decide, h.2]
  simp
theorem below_num : Fl.Zv 14114281232179134464 = -9223372036854775808 * (Fl.U : Int) ∧ Fl.fin 14114281232179134464 := by
  have h := word_63
  have e : Fl.rg 14114281232179134464 = 4890909195324358656 := by decide
  refine ⟨?_, by unfold Fl.fin; rw [e]; exact h.1⟩
  unfold Fl.Zv
  rw [show Fl.sg 14114281232179134464 = true by decide, e, h.2]
  simp [Int.neg_mul]
theorem ge_beyond {y : Nat} (hy : Fl.fin y) {v : Int} (h : Fl.Zv y = v * (Fl.U : Int)) : (FloatKind.f64.format.order y 14114281232179134464 == some .gt || FloatKind.f64.format.order y 14114281232179134464 == some .eq) = decide (-9223372036854775808 ≤ v) := by
  have ho : FloatKind.f64.format.order y 14114281232179134464 = _ := Fl.order_fin hy below_num.2
  rw [ho, h, below_num.1, Fl.compare_mul _ _ _ (by exact_mod_cast Fl.U_pos)]
  rcases Int.lt_trichotomy v (-9223372036854775808) with h1 | h1 | h1
  · rw [Int.compare_eq_lt.2 h1, decide_eq_false (by omega)]; rfl
  · rw [h1, Int.compare_eq_eq.2 rfl]; rfl
  · rw [Int.compare_eq_gt.2 h1, decide_eq_true (by omega)]; rfl
theorem lt_beyond {y : Nat} (hy : Fl.fin y) {v : Int} (h : Fl.Zv y = v * (Fl.U : Int)) : (FloatKind.f64.format.order y 4890909195324358656 == some .lt) = decide (v < 9223372036854775808) := by
  have ho : FloatKind.f64.format.order y 4890909195324358656 = _ := Fl.order_fin hy beyond_num.2
  rw [ho, h, beyond_num.1, Fl.compare_mul _ _ _ (by exact_mod_cast Fl.U_pos)]
  rcases Int.lt_trichotomy v 9223372036854775808 with h1 | h1 | h1
  · rw [Int.compare_eq_lt.2 h1, decide_eq_true h1]; rfl
  · rw [h1, Int.compare_eq_eq.2 rfl]; rfl
  · rw [Int.compare_eq_gt.2 h1, decide_eq_false (by omega)]; rfl
theorem unit_abs {y : Nat} {v : Int} (h : Fl.Zv y = v * (Fl.U : Int)) : Fl.Iv (Fl.rg y) = v.natAbs := by
  have h1 := Fl.natAbs_Zv y
  rw [h, Int.natAbs_mul, Int.natAbs_natCast] at h1
  unfold Fl.Iv
  rw [← h1, Nat.mul_div_cancel _ Fl.U_pos]
theorem conv_whole {y : Nat} (hy : Fl.fin y) {v : Int} (h : Fl.Zv y = v * (Fl.U : Int)) (h0 : -9223372036854775808 ≤ v) (h1 : v < 9223372036854775808) : floatToIntVal .f64 y .i64 = some v := by
  have hI := unit_abs h
  have hsg : (if Fl.sg y then -(Fl.Iv (Fl.rg y) : Int) else (Fl.Iv (Fl.rg y) : Int)) = v := by
    rw [hI]
    have hp : (0 : Int) < (Fl.U : Int) := by exact_mod_cast Fl.U_pos
    unfold Fl.Zv at h
    cases hs : Fl.sg y
    · rw [hs, if_neg (by simp)] at h
      have hv : 0 ≤ v := by
        rcases Int.lt_or_le v 0 with h2 | h2
        · have := Int.mul_neg_of_neg_of_pos h2 hp; omega
        · exact h2
      rw [if_neg (by simp)]; omega
    · rw [hs, if_pos rfl] at h
      have hv : v ≤ 0 := by
        rcases Int.lt_or_le 0 v with h2 | h2
        · have := Int.mul_pos h2 hp; omega
        · exact h2
      rw [if_pos rfl]; omega
  have h2 : (FloatKind.f64.decode y).toInt .zero = some v := by
    have h3 := Fl.toInt_fin hy
    rw [hsg] at h3
    exact h3
  unfold floatToIntVal
  rw [h2]
  have e3 : IntKind.min .i64 = -9223372036854775808 := by decide
  have e4 : IntKind.max .i64 = 9223372036854775807 := by decide
  dsimp only
  rw [e3, e4, if_pos (by omega)]
theorem neg_run {P : Program} (W : World) (x : Nat) : (Op.unary .neg (.float .f64 x)).run P W = .ok (.float .f64 (Op.negFloat .f64 x)) W := rfl
/-- what To tells of a finite number: it is cut towards 0; out of range: an error -/
def cutOf (x : Nat) : Int := if Fl.sg x then -(Fl.Iv (Fl.rg x) : Int) else (Fl.Iv (Fl.rg x) : Int)
def toOf (v : Int) : Value := if -9223372036854775808 ≤ v ∧ v < 9223372036854775808 then .tuple #[.int .i64 v, .int .i64 0] else .tuple #[.int .i64 0, .int .i64 (-43)]
set_option maxHeartbeats 6400000 in
set_option maxRecDepth 100000 in
theorem to_fin (a : Int) (hf : Fl.fin (bitsOf a)) (w : World) : Calls Tryz.prog 138 #[.int .i64 a] w fun e w' => e = .returned (toOf (cutOf (bitsOf a))) ∧ w = w' := by
  obtain ⟨x, hx⟩ : ∃ x, bitsOf a = x := ⟨_, rfl⟩
  have hlt : x < 18446744073709551616 := by rw [← hx]; exact bitsOf_lt a
  have hN := number_any a
  rw [hx] at hN hf ⊢
  clear hx
  have hr : Fl.rg x < 9218868437227405312 := hf
  -- what is rounded, and its sign
  obtain ⟨hq, hv⟩ := floW_spec hr
  obtain ⟨q, hqe⟩ : ∃ q, floW (Fl.rg x) = q := ⟨_, rfl⟩
  have hFl := fun W => Floor_pos (Fl.rg x) hr W
  rw [hqe] at hq hv hFl
  have h0 : Fl.fin 0 := fin_nat (by omega)
  have ho : FloatKind.f64.format.order x 0 = _ := Fl.order_fin (x := x) (y := 0) hf h0
  rw [show Fl.Zv 0 = 0 by decide] at ho
  by_cases hneg : Fl.Zv x < 0
  · -- below 0
    rw [Int.compare_eq_lt.2 hneg] at ho
    have hl : (FloatKind.f64.format.order x 0 == some .lt) = true := by rw [ho]; rfl
    have hs : Fl.sg x = true := by
      cases h : Fl.sg x
      · unfold Fl.Zv at hneg; rw [h, if_neg (by simp)] at hneg; omega
      · rfl
    have hxb : 9223372036854775808 ≤ x := by
      unfold Fl.sg at hs
      rcases Nat.lt_or_ge x 9223372036854775808 with h | h
      · rw [show x / 9223372036854775808 = 0 by omega] at hs; cases hs
      · exact h
    have en : Op.negFloat .f64 x = Fl.rg x := by rw [negFloat_eq x hlt]; unfold negOf Fl.rg; rw [if_neg (by omega)]; omega
    have hen := fun W => neg_run (P := Tryz.prog) W x
    rw [en] at hen
    have en2 : Op.negFloat .f64 q = 9223372036854775808 + q := by rw [negFloat_eq q (by omega)]; unfold negOf; rw [if_pos (by omega)]
    obtain ⟨y, hy⟩ : ∃ y, 9223372036854775808 + q = y := ⟨_, rfl⟩
    have hyr : Fl.rg y = q := by unfold Fl.rg; omega
    have hyf : Fl.fin y := by unfold Fl.fin; omega
    have hys : Fl.sg y = true := by unfold Fl.sg; rw [show y / 9223372036854775808 = 1 by omega]; rfl
    have hz : Fl.Zv y = cutOf x * (Fl.U : Int) := by
      unfold Fl.Zv cutOf; rw [hyr, hys, hs, if_pos rfl, if_pos rfl, hv, Int.natCast_mul, Int.neg_mul]
    have hge := ge_beyond hyf hz
    have hltb := lt_beyond hyf hz
    have hcv := conv_whole hyf hz
    rw [hy] at en2
    have hen2 := fun W => neg_run (P := Tryz.prog) W q
    rw [en2] at hen2
    obtain ⟨v, hve⟩ : ∃ v, cutOf x = v := ⟨_, rfl⟩
    rw [hve] at hge hltb hcv ⊢
    have hv0 : v ≤ 0 := by rw [← hve]; unfold cutOf; rw [hs, if_pos rfl]; omega
    rw [decide_eq_true (show v < 9223372036854775808 by omega)] at hltb
    clear ho hneg hs hxb hy hyr hyf hys hz hve hqe hv h0 hf
    by_cases hin : -9223372036854775808 ≤ v
    · have hT : toOf v = .tuple #[.int .i64 v, .int .i64 0] := by unfold toOf; rw [if_pos (by omega)]
      have hc := fun W => run_convert_float_int (P := Tryz.prog) W 140 36 .f64 .i64 y v (by kernel_rfl) (by kernel_rfl) (hcv hin (by omega))
      rw [decide_eq_true hin] at hge
      rw [hT]
      clear hT hcv
      go_enter Tryz.func138, Tryz.ntmps138
      go_wp2_with fail
      refine (hN _).mono ?_
      rintro _ _ ⟨rfl, rfl⟩
      go_wp2_with fail
      refine (hFl _).mono ?_
      rintro _ _ ⟨rfl, rfl⟩
      go_wp2_with fail
      go_ret2
      exact ⟨rfl, rfl⟩
    · have hT : toOf v = .tuple #[.int .i64 0, .int .i64 (-43)] := by unfold toOf; rw [if_neg (by omega)]
      rw [decide_eq_false hin] at hge
      rw [hT]
      clear hT hcv
      go_enter Tryz.func138, Tryz.ntmps138
      go_wp2_with fail
      refine (hN _).mono ?_
      rintro _ _ ⟨rfl, rfl⟩
      go_wp2_with fail
      refine (hFl _).mono ?_
      rintro _ _ ⟨rfl, rfl⟩
      go_wp2_with fail
      go_ret2
      exact ⟨rfl, rfl⟩
  · -- not below 0
    have hl : (FloatKind.f64.format.order x 0 == some .lt) = false := by
      rw [ho]
      rcases Int.lt_trichotomy (Fl.Zv x) 0 with h | h | h
      · exact absurd h hneg
      · rw [h, Int.compare_eq_eq.2 rfl]; rfl
      · rw [Int.compare_eq_gt.2 h]; rfl
    obtain ⟨y, hyf, hz, hFloor⟩ : ∃ y, Fl.fin y ∧ Fl.Zv y = cutOf x * (Fl.U : Int) ∧ ∀ W, Calls Tryz.prog 219 #[.float .f64 x] W fun e w' => e = .returned (.float .f64 y) ∧ W = w' := by
      cases hs : Fl.sg x
      · have hxr : Fl.rg x = x := by
          unfold Fl.sg at hs
          unfold Fl.rg
          rcases Nat.lt_or_ge x 9223372036854775808 with h | h
          · omega
          · rw [show x / 9223372036854775808 = 1 by omega] at hs; cases hs
        refine ⟨q, fin_nat hq, ?_, ?_⟩
        · have e1 : Fl.sg q = false := by unfold Fl.sg; rw [show q / 9223372036854775808 = 0 by omega]; rfl
          have e2 : Fl.rg q = q := by unfold Fl.rg; omega
          unfold Fl.Zv cutOf
          rw [hs, e1, e2, hv, if_neg (by simp), if_neg (by simp), Int.natCast_mul]
        · rw [hxr] at hFl
          exact hFl
      · have hr0 : Fl.rg x = 0 := by
          rcases Nat.eq_zero_or_pos (Fl.rg x) with h | h
          · exact h
          · have := Fl.Nv_lt h
            exfalso
            apply hneg
            unfold Fl.Zv
            rw [hs, if_pos rfl]
            omega
        have hx : x = 9223372036854775808 := by
          unfold Fl.sg at hs
          unfold Fl.rg at hr0
          rcases Nat.lt_or_ge x 9223372036854775808 with h | h
          · rw [show x / 9223372036854775808 = 0 by omega] at hs; cases hs
          · omega
        subst hx
        refine ⟨9223372036854775808, hf, by decide +kernel, fun W => ?_⟩
        have h46 := run_floor 9223372036854775808 hf W
        rw [show FloatKind.f64.encode ((FloatKind.f64.decode 9223372036854775808).integral .down) = 9223372036854775808 by decide +kernel] at h46
        exact floor_any _ _ _ _ h46
    have hge := ge_beyond hyf hz
    have hltb := lt_beyond hyf hz
    have hcv := conv_whole hyf hz
    have hv0 : 0 ≤ cutOf x := by
      unfold cutOf
      cases hs : Fl.sg x
      · rw [if_neg (by simp)]; omega
      · have : Fl.Iv (Fl.rg x) = 0 := by
          have : Fl.Nv (Fl.rg x) = 0 := by unfold Fl.Zv at hneg; rw [hs, if_pos rfl] at hneg; omega
          unfold Fl.Iv; rw [this, Nat.zero_div]
        rw [if_pos rfl, this]; decide
    obtain ⟨v, hve⟩ : ∃ v, cutOf x = v := ⟨_, rfl⟩
    rw [hve] at hge hltb hcv hv0 ⊢
    rw [decide_eq_true (show -9223372036854775808 ≤ v by omega)] at hge
    clear ho hneg hyf hz hve hqe hv hq hFl h0 hf
    by_cases hin : v < 9223372036854775808
    · have hT : toOf v = .tuple #[.int .i64 v, .int .i64 0] := by unfold toOf; rw [if_pos (by omega)]
      have hc := fun W => run_convert_float_int (P := Tryz.prog) W 140 36 .f64 .i64 y v (by kernel_rfl) (by kernel_rfl) (hcv (by omega) hin)
      rw [decide_eq_true hin] at hltb
      rw [hT]
      clear hT hcv
      go_enter Tryz.func138, Tryz.ntmps138
      go_wp2_with fail
      refine (hN _).mono ?_
      rintro _ _ ⟨rfl, rfl⟩
      go_wp2_with fail
      refine (hFloor _).mono ?_
      rintro _ _ ⟨rfl, rfl⟩
      go_wp2_with fail
      go_ret2
      exact ⟨rfl, rfl⟩
    · have hT : toOf v = .tuple #[.int .i64 0, .int .i64 (-43)] := by unfold toOf; rw [if_neg (by omega)]
      rw [decide_eq_false hin] at hltb
      rw [hT]
      clear hT hcv
      go_enter Tryz.func138, Tryz.ntmps138
      go_wp2_with fail
      refine (hN _).mono ?_
      rintro _ _ ⟨rfl, rfl⟩
      go_wp2_with fail
      refine (hFloor _).mono ?_
      rintro _ _ ⟨rfl, rfl⟩
      go_wp2_with fail
      go_ret2
      exact ⟨rfl, rfl⟩
end Go.Proofs.YtkbchpaofmlhgaaGreatDoor.Rl
