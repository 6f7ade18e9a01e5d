/- The contracts of real's small functions and of math's that they call: number, made, Abs, Signbit, IsInf, Floor, TrailingZeros64. -/
import Derived.Test.YtibifcchmccknaaDoorBase
import Derived.Test.YtibifcchmccknaaDoorFloat
import Derived.Laws.Bits64b
import Derived.Lib.TrailingZeros
namespace Go.Proofs.YtibifcchmccknaaDoor
open Go.RowKit

/-- a cell's bits -/
def bitsOf (a : Int) : Nat := (a % 18446744073709551616).toNat
theorem bitsOf_lt (a : Int) : bitsOf a < 18446744073709551616 := by unfold bitsOf; omega
theorem bitsOf_cast (a : Int) : (bitsOf a : Int) = a % 18446744073709551616 := by unfold bitsOf; omega
/-- bits as a cell -/
def cellOf (n : Nat) : Int := if n < 9223372036854775808 then (n : Int) else (n : Int) - 18446744073709551616
theorem cellOf_bitsOf (a : Int) (h0 : -9223372036854775808 ≤ a) (h1 : a ≤ 9223372036854775807) : cellOf (bitsOf a) = a := by unfold cellOf bitsOf; split <;> omega

/-- the machine's own four: bits as a number and back, and what is rounded -/
theorem run_frombits (n : Int) (w : World) : (callFunc 44 #[.int .u64 n]).run Tryd.prog w = .ok (.value (.float .f64 n.toNat)) w := by
  rw [run_callFunc_extern Tryd.func44 (by kernel_rfl) (by kernel_rfl) (by kernel_rfl) (e := Extern.MathFloatBits.float64frombits) (by kernel_rfl)]
  rfl
theorem run_tobits (n : Nat) (w : World) : (callFunc 45 #[.float .f64 n]).run Tryd.prog w = .ok (.value (.int .u64 n)) w := by
  rw [run_callFunc_extern Tryd.func45 (by kernel_rfl) (by kernel_rfl) (by kernel_rfl) (e := Extern.MathFloatBits.float64bits) (by kernel_rfl)]
  rfl
theorem run_floor (x : Nat) (h : Fl.fin x) (w : World) : (callFunc 46 #[.float .f64 x]).run Tryd.prog w = .ok (.value (.float .f64 (FloatKind.f64.encode ((FloatKind.f64.decode x).integral .down)))) w := by
  rw [run_callFunc_extern Tryd.func46 (by kernel_rfl) (by kernel_rfl) (by kernel_rfl) (e := Extern.MathFloor.toIntegral "math.archFloor" .down) (by kernel_rfl)]
  have e : FloatKind.f64.decode x = .number (Fl.sg x) (Fl.M (Fl.rg x)) (-1074 + (Fl.E (Fl.rg x) : Int)) := Fl.read_fin h
  obtain ⟨F, hF⟩ : ∃ F : Bool → Nat → Sem Value, Extern.MathFloor.toIntegral "math.archFloor" .down #[.float .f64 x] = (match FloatKind.f64.decode x with
    | .nan s t => F s t
    | d => pure (.float .f64 (FloatKind.f64.encode (d.integral .down)))) := ⟨_, rfl⟩
  rw [hF, e]
  rfl

set_option maxRecDepth 100000 in
theorem number_any (a : Int) (w : World) : Calls Tryd.prog 22 #[.int .i64 a] w fun e w' => e = .returned (.float .f64 (bitsOf a)) ∧ w = w' := by
  have h44 := run_frombits (IntKind.u64.wrap a)
  have e : (IntKind.u64.wrap a).toNat = bitsOf a := by rw [IntKind.wrap_u64]; rfl
  rw [e] at h44
  clear e
  go_enter Tryd.func22, Tryd.ntmps22
  go_wp2
  go_ret
  exact ⟨rfl, rfl⟩

theorem tz_key (x a : Nat) (hx : x < 18446744073709551616) (hlow : x &&& (18446744073709551616 - x) = a) :
    IntKind.u64.wrap (bits BinOp.and IntKind.u64 (x : Int) (IntKind.u64.wrap (-(x : Int))) * 285870213051353865) / 288230376151711744 = ((a * 285870213051353865 % 18446744073709551616 / 288230376151711744 : Nat) : Int) := by
  by_cases h0 : x = 0
  · subst h0
    have : a = 0 := by rw [← hlow]; simp
    subst this
    decide
  have e1 : IntKind.u64.wrap (-(x : Int)) = ((18446744073709551616 - x : Nat) : Int) := by rw [IntKind.wrap_u64]; omega
  rw [e1, bits_and_u64_nat x _ hx (by omega), hlow, IntKind.wrap_u64]
  omega

/-- the table in its variable -/
def TzTab (w : World) : Prop := ∀ j, j < Lib.deBruijn64tab.length → w.cell? ⟨1, j, none⟩ = some (.int .u8 (Lib.deBruijn64tab.getD j 0))

set_option maxHeartbeats 1000000 in
theorem tz_any (x : Nat) (hx : x < 18446744073709551616) (h0 : x ≠ 0) (w : World) (hT : TzTab w) :
    Calls Tryd.prog 30 #[.int .u64 x] w fun e w' => e = .returned (.int .i64 (Lib.ctz 64 x)) ∧ w = w' := by
  obtain ⟨hlow, hk⟩ := Lib.lowest_bit 64 x h0 hx
  obtain ⟨hi, htab⟩ := Lib.deBruijn64_at _ hk
  have key := tz_key x _ hx hlow
  have hc := hT _ (show _ < Lib.deBruijn64tab.length from hi)
  rw [htab] at hc
  obtain ⟨i, hie⟩ : ∃ i, 2 ^ Lib.ctz 64 x * 285870213051353865 % 18446744073709551616 / 288230376151711744 = i := ⟨_, rfl⟩
  rw [hie] at key hc hi
  obtain ⟨k, hke⟩ : ∃ k, Lib.ctz 64 x = k := ⟨_, rfl⟩
  rw [hke] at hc hk ⊢
  have hx0 : ((x : Int) == 0) = false := by rw [beq_eq_false_iff_ne]; omega
  clear hlow htab hie hke hT h0
  go_enter Tryd.func30, Tryd.ntmps30
  go_wp2_with (simp only [key])
  go_ret
  exact ⟨rfl, rfl⟩

end Go.Proofs.YtibifcchmccknaaDoor
