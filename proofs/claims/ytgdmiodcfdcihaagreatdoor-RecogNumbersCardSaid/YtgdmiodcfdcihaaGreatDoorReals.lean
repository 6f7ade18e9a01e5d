/- What real.Number rests on: bits and numbers, made, Copysign, TrailingZeros64. -/
import Derived.Test.YtgdmiodcfdcihaaGreatDoorRecog4
import Derived.Test.YtgdmiodcfdcihaaGreatDoorFloat3
import Derived.Laws.Bits64b
import Derived.Lib.TrailingZeros
import Derived.Laws.FloatArith
import Derived.Laws.BitsAllLaws
namespace Go.Proofs.YtgdmiodcfdcihaaGreatDoor
open Go.RowKit

/- The contracts of real's small functions and of math's that they call: number, made, Abs, Signbit, IsInf, Floor, TrailingZeros64. -/
/-- a cell's bits -/
def bitsOf (a : Int) : Nat := (a % 18446744073709551616).toNat

theorem bitsOf_lt (a : Int) : bitsOf a < 18446744073709551616 := by unfold bitsOf; omega

theorem bitsOf_cast (a : Int) : (bitsOf a : Int) = a % 18446744073709551616 := by unfold bitsOf; omega

/-- bits as a cell -/
def cellOf (n : Nat) : Int := if n < 9223372036854775808 then (n : Int) else (n : Int) - 18446744073709551616

theorem cellOf_bitsOf (a : Int) (h0 : -9223372036854775808 ≤ a) (h1 : a ≤ 9223372036854775807) : cellOf (bitsOf a) = a := by unfold cellOf bitsOf; split <;> omega

/-- the machine's own four: bits as a number and back, and what is rounded -/
theorem run_frombits (n : Int) (w : World) : (callFunc 71 #[.int .u64 n]).run Tryz.prog w = .ok (.value (.float .f64 n.toNat)) w := by
  rw [run_callFunc_extern Tryz.func71 (by kernel_rfl) (by kernel_rfl) (by kernel_rfl) (e := Extern.MathFloatBits.float64frombits) (by kernel_rfl)]
  rfl

theorem run_tobits (n : Nat) (w : World) : (callFunc 72 #[.float .f64 n]).run Tryz.prog w = .ok (.value (.int .u64 n)) w := by
  rw [run_callFunc_extern Tryz.func72 (by kernel_rfl) (by kernel_rfl) (by kernel_rfl) (e := Extern.MathFloatBits.float64bits) (by kernel_rfl)]
  rfl

theorem tz_key (x a : Nat) (hx : x < 18446744073709551616) (hlow : x &&& (18446744073709551616 - x) = a) :
    IntKind.u64.wrap (bits BinOp.and IntKind.u64 (x : Int) (IntKind.u64.wrap (-(x : Int))) * 285870213051353865) / 288230376151711744 = ((a * 285870213051353865 % 18446744073709551616 / 288230376151711744 : Nat) : Int) := by
  by_cases h0 : x = 0
  · subst h0
    have : a = 0 := by rw [← hlow]; simp
    subst this
    decide
  have e1 : IntKind.u64.wrap (-(x : Int)) = ((18446744073709551616 - x : Nat) : Int) := by rw [IntKind.wrap_u64]; omega
  rw [e1, bits_and_u64_nat x _ hx (by omega), hlow, IntKind.wrap_u64]
  omega

/-- the table in its variable -/
def TzTab (w : World) : Prop := ∀ j, j < Lib.deBruijn64tab.length → w.cell? ⟨0, j, none⟩ = some (.int .u8 (Lib.deBruijn64tab.getD j 0))

set_option maxHeartbeats 1000000 in
theorem tz_any (x : Nat) (hx : x < 18446744073709551616) (h0 : x ≠ 0) (w : World) (hT : TzTab w) :
    Calls Tryz.prog 53 #[.int .u64 x] w fun e w' => e = .returned (.int .i64 (Lib.ctz 64 x)) ∧ w = w' := by
  obtain ⟨hlow, hk⟩ := Lib.lowest_bit 64 x h0 hx
  obtain ⟨hi, htab⟩ := Lib.deBruijn64_at _ hk
  have key := tz_key x _ hx hlow
  have hc := hT _ (show _ < Lib.deBruijn64tab.length from hi)
  rw [htab] at hc
  obtain ⟨i, hie⟩ : ∃ i, 2 ^ Lib.ctz 64 x * 285870213051353865 % 18446744073709551616 / 288230376151711744 = i := ⟨_, rfl⟩
  rw [hie] at key hc hi
  obtain ⟨k, hke⟩ : ∃ k, Lib.ctz 64 x = k := ⟨_, rfl⟩
  rw [hke] at hc hk ⊢
  have hx0 : ((x : Int) == 0) = false := by rw [beq_eq_false_iff_ne]; omega
  clear hlow htab hie hke hT h0
  go_enter Tryz.func53, Tryz.ntmps53
  go_wp2_with (simp only [key])
  go_ret
  exact ⟨rfl, rfl⟩

/- The contracts of real's small functions: made, Floor, Abs, Signbit, IsInf, Of, Two, One. Sums that are none draw a letter of the tape: the world is touched nowhere, but not the same. -/
/-- is it none? -/
def nanB (x : Nat) : Prop := 9218868437227405312 < Fl.rg x

instance (x : Nat) : Decidable (nanB x) := inferInstanceAs (Decidable (_ < _))

/-- a machine's number as a cell -/
def madeOf (x : Nat) : Int := if nanB x then 9221120237041090560 else cellOf x

theorem order_self (x : Nat) : Ieee.double.order x x = if nanB x then none else some .eq := by
  have hn : nanB x ↔ 9218868437227405312 < Fl.rg x := Iff.rfl
  by_cases h1 : Fl.rg x < 9218868437227405312
  · rw [if_neg (by rw [hn]; omega), Fl.order_fin h1 h1, Int.compare_eq_eq.2 rfl]
  · by_cases h2 : Fl.rg x = 9218868437227405312
    · rw [if_neg (by rw [hn]; omega)]
      unfold Ieee.Format.order
      rw [Fl.read_inf h2]
      cases Fl.sg x <;> rfl
    · rw [if_pos (by rw [hn]; omega)]
      unfold Ieee.Format.order
      rw [Fl.read_nan (by omega)]
      rfl

set_option maxRecDepth 100000 in
theorem madeR_any (x : Nat) (hx : x < 18446744073709551616) (w : World) : Calls Tryz.prog 57 #[.float .f64 x] w fun e w' => e = .returned (.int .i64 (madeOf x)) ∧ w = w' := by
  have h45 := run_tobits x
  have ho : FloatKind.f64.format.order x x = _ := order_self x
  have hc : IntKind.i64.wrap (x : Int) = cellOf x := by
    rw [IntKind.wrap_i64]
    unfold cellOf
    split <;> omega
  unfold madeOf
  by_cases hn : nanB x
  · rw [if_pos hn] at ho ⊢
    have h1 : (FloatKind.f64.format.order x x != some .eq) = true := by rw [ho]; rfl
    clear ho hn
    go_enter Tryz.func57, Tryz.ntmps57
    go_wp2
    go_ret
    exact ⟨rfl, rfl⟩
  · rw [if_neg hn] at ho ⊢
    have h1 : (FloatKind.f64.format.order x x != some .eq) = false := by rw [ho]; rfl
    clear ho hn
    go_enter Tryz.func57, Tryz.ntmps57
    go_wp2_with (simp only [hc])
    go_ret
    exact ⟨rfl, rfl⟩

/- The document's examples hold; what is none; the laws of order. -/
theorem TzTab.touch {w w' : World} (h : TzTab w) (ht : Touch [] w w') : TzTab w' := by
  intro j hj
  have hc := h j hj
  have hlt : 0 < w.heap.size := by
    rcases Nat.lt_or_ge 0 w.heap.size with h' | h'
    · exact h'
    · rw [World.cell?] at hc
      simp [Array.getElem?_eq_none h'] at hc
  rw [ht.cell (p := ⟨0, j, none⟩) hlt (by simp)]
  exact hc

/- The contracts of whole, scaled and Copysign. -/
theorem touch_bytes (w : World) (t : ByteArray) : Touch [] w (Lib.bytesWorld w 5 t) := by
  exact Touch.of_below (Lib.bytesWorld_below w 5 t) _

set_option maxRecDepth 100000 in
theorem copysign_any (x : Nat) (hx : x < 9223372036854775808) (w : World) : Calls Tryz.prog 56 #[.float .f64 x, .float .f64 13830554455654793216] w fun e w' => e = .returned (.float .f64 (9223372036854775808 + x)) ∧ w = w' := by
  have h1 := run_tobits x
  have h2 := run_tobits 13830554455654793216
  have h3 := run_frombits (9223372036854775808 + (x : Int))
  rw [show (9223372036854775808 + (x : Int)).toNat = 9223372036854775808 + x by omega] at h3
  have e1 : bits BinOp.andNot IntKind.u64 (x : Int) 9223372036854775808 = (x : Int) := by
    have := Go.u64_andNot_nat x 9223372036854775808 (by omega) (by omega)
    rw [show ((9223372036854775808 : Nat) : Int) = 9223372036854775808 from rfl] at this
    rw [this, show (18446744073709551615 - 9223372036854775808 : Nat) = 2 ^ 63 - 1 from rfl, Nat.and_two_pow_sub_one_eq_mod, Nat.mod_eq_of_lt hx]
  have e2 : bits BinOp.and IntKind.u64 13830554455654793216 9223372036854775808 = 9223372036854775808 := by decide +kernel
  have e3 : bits BinOp.or IntKind.u64 (x : Int) 9223372036854775808 = ((9223372036854775808 + x : Nat) : Int) := by
    have h := Go.u64_or_nat x 9223372036854775808 (by omega) (by omega)
    rw [show ((9223372036854775808 : Nat) : Int) = 9223372036854775808 from rfl] at h
    have e := Nat.two_pow_add_eq_or_of_lt (i := 63) hx 1
    rw [Nat.mul_one] at e
    rw [h, Nat.or_comm]
    exact congrArg Nat.cast e.symm
  go_enter Tryz.func56, Tryz.ntmps56
  go_wp2_with (simp only [e1, e2, e3])
  go_ret
  exact ⟨rfl, rfl⟩

/-- how far scaled has come: m is odd, the number is m * 2 ^ j, and i steps are left up to t -/
def ScAt (m t q : Nat) (i : Int) : Prop := ∃ j : Nat, q < 9218868437227405312 ∧ Fl.Nv q = m * 2 ^ j ∧ (j : Int) + i = t

theorem sc_up {m t q : Nat} {i : Int} (hm : m < 9007199254740992) (hl : m.log2 + t < 2098) (h : ScAt m t q i) (hi : 0 < i) : ∃ p, ScAt m t p (i - 1) ∧ floatBits .mul .f64 q 4611686018427387904 = some p := by
  obtain ⟨j, hq, hv, hj⟩ := h
  obtain ⟨p, hp, hpv⟩ := Fl.rung_of m (j + 1) hm (.inr (by omega))
  have hmul := Fl.mul_two hq hp (by rw [hpv, hv, Nat.pow_succ, ← Nat.mul_assoc, Nat.mul_comm])
  rw [Fl.word_false, Fl.word_false] at hmul
  exact ⟨p, ⟨j + 1, hp, hpv, by omega⟩, hmul⟩

theorem sc_down {m t q : Nat} {i : Int} (hm : m < 9007199254740992) (hl : m.log2 + 1074 < 2098) (h : ScAt m t q i) (hi : i < 0) (hi2 : (t : Int) - i ≤ 1074) : ∃ p, ScAt m t p (i + 1) ∧ floatBits .quo .f64 q 4611686018427387904 = some p := by
  obtain ⟨j, hq, hv, hj⟩ := h
  obtain ⟨k, rfl⟩ : ∃ k, j = k + 1 := ⟨j - 1, by omega⟩
  obtain ⟨p, hp, hpv⟩ := Fl.rung_of m k hm (.inr (by omega))
  have hdiv := Fl.div_two hq hp (by rw [hpv, hv, Nat.pow_succ, ← Nat.mul_assoc, Nat.mul_comm])
  rw [Fl.word_false, Fl.word_false] at hdiv
  exact ⟨p, ⟨k, hp, hpv, by omega⟩, hdiv⟩

/- Number, at a text whose parts are known; the walk of RealBack. -/
/-- MaxLen holds some int -/
def MaxIs (w : World) : Prop := ∃ mx, w.cell? ⟨2, 0, none⟩ = some (.int .i64 mx)

theorem MaxIs.touch {w w' : World} (h : MaxIs w) (ht : Touch [] w w') : MaxIs w' := by
  obtain ⟨mx, hm⟩ := h
  refine ⟨mx, ?_⟩
  have hlt : 2 < w.heap.size := by
    rcases Nat.lt_or_ge 2 w.heap.size with h' | h'
    · exact h'
    · rw [World.cell?] at hm
      simp [Array.getElem?_eq_none h'] at hm
  rw [ht.cell (p := ⟨2, 0, none⟩) hlt (by simp)]
  exact hm

/-- ErrSyntax holds an error or none -/
def ErrIs (W : World) : Prop := ∃ ev, W.cell? ⟨3, 0, none⟩ = some ev ∧ (ev = .nilIface ∨ ∃ te pe, ev = .iface te pe)

theorem ErrIs.touch {w w' : World} (h : ErrIs w) (ht : Touch [] w w') : ErrIs w' := by
  obtain ⟨ev, hm, hev⟩ := h
  refine ⟨ev, ?_, hev⟩
  have hlt : 3 < w.heap.size := by
    rcases Nat.lt_or_ge 3 w.heap.size with h' | h'
    · exact h'
    · rw [World.cell?] at hm
      simp [Array.getElem?_eq_none h'] at hm
  rw [ht.cell (p := ⟨3, 0, none⟩) hlt (by simp)]
  exact hm

end Go.Proofs.YtgdmiodcfdcihaaGreatDoor
