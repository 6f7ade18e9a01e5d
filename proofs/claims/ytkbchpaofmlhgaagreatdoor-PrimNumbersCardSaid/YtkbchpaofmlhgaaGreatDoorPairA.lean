/- The document's pairs: contracts of rhytonref02's small functions; a pair is a number below 2^128. -/
import Derived.Test.YtkbchpaofmlhgaaGreatDoorReals7
import Derived.Test.YtkbchpaofmlhgaaGreatDoorWorld
import Derived.Handy
import Derived.Deep.Cut
namespace Go.Proofs.YtkbchpaofmlhgaaGreatDoor
open Go.RowKit

/-- a pair -/
structure PairV where
  lo : Int
  hi : Int
def PairV.v (p : PairV) : Value := .agg #[.int .i64 p.lo, .int .i64 p.hi]
def PairV.ok (p : PairV) : Prop := -9223372036854775808 ≤ p.lo ∧ p.lo ≤ 9223372036854775807 ∧ -9223372036854775808 ≤ p.hi ∧ p.hi ≤ 9223372036854775807
/-- its number -/
def PairV.num (p : PairV) : Nat := bitsOf p.lo + 18446744073709551616 * bitsOf p.hi
/-- the pair of a number -/
def pairOf (n : Nat) : PairV := ⟨cellOf (n % 18446744073709551616), cellOf (n / 18446744073709551616 % 18446744073709551616)⟩

theorem below_any (a b : Int) (w : World) : Calls Tryz.prog 55 #[.int .i64 a, .int .i64 b] w fun e w' => e = .returned (.bool (decide (bitsOf a < bitsOf b))) ∧ w = w' := by
  have h : decide (IntKind.u64.wrap a < IntKind.u64.wrap b) = decide (bitsOf a < bitsOf b) := by
    rw [IntKind.wrap_u64, IntKind.wrap_u64, decide_eq_decide, ← bitsOf_cast, ← bitsOf_cast]
    omega
  go_enter Tryz.func55, Tryz.ntmps55
  go_wp2_with (simp only [h])
  go_ret
  exact ⟨rfl, rfl⟩

theorem bits_wrap (a : Int) : bitsOf (wrap64 a) = bitsOf a := by unfold bitsOf wrap64; omega
theorem bits_add (a b : Int) : bitsOf (a + b) = (bitsOf a + bitsOf b) % 18446744073709551616 := by unfold bitsOf; omega
theorem wrap_cell (a : Int) : wrap64 a = cellOf (bitsOf a) := by unfold bitsOf wrap64 cellOf; split <;> omega
theorem pair_parts (n : Nat) : (pairOf n).lo = cellOf (n % 18446744073709551616) ∧ (pairOf n).hi = cellOf (n / 18446744073709551616 % 18446744073709551616) := ⟨rfl, rfl⟩
theorem padd_law (p q : PairV) : (pairOf ((p.num + q.num) % 340282366920938463463374607431768211456)).lo = wrap64 (p.lo + q.lo) ∧
    (pairOf ((p.num + q.num) % 340282366920938463463374607431768211456)).hi = if bitsOf (wrap64 (p.lo + q.lo)) < bitsOf p.lo then wrap64 (wrap64 (p.hi + q.hi) + 1) else wrap64 (p.hi + q.hi) := by
  have h1 := bitsOf_lt p.lo
  have h2 := bitsOf_lt q.lo
  have h3 := bitsOf_lt p.hi
  have h4 := bitsOf_lt q.hi
  rw [(pair_parts _).1, (pair_parts _).2, bits_wrap, bits_add]
  have e1 : wrap64 (p.lo + q.lo) = cellOf ((bitsOf p.lo + bitsOf q.lo) % 18446744073709551616) := by rw [wrap_cell, bits_add]
  have e2 : wrap64 (p.hi + q.hi) = cellOf ((bitsOf p.hi + bitsOf q.hi) % 18446744073709551616) := by rw [wrap_cell, bits_add]
  have e3 : wrap64 (wrap64 (p.hi + q.hi) + 1) = cellOf ((bitsOf p.hi + bitsOf q.hi + 1) % 18446744073709551616) := by
    rw [wrap_cell, bits_add, bits_wrap, bits_add, show bitsOf 1 = 1 by decide]
    congr 1
    omega
  rw [e3, e1, e2]
  unfold PairV.num
  generalize bitsOf p.lo = a at *
  generalize bitsOf q.lo = b at *
  generalize bitsOf p.hi = c at *
  generalize bitsOf q.hi = d at *
  clear e1 e2 e3
  refine ⟨congrArg cellOf (by omega), ?_⟩
  by_cases h : (a + b) % 18446744073709551616 < a
  · rw [if_pos h]
    exact congrArg cellOf (by omega)
  · rw [if_neg h]
    exact congrArg cellOf (by omega)

set_option maxRecDepth 100000 in
theorem padd_any (p q : PairV) (w : World) : Calls Tryz.prog 28 #[p.v, q.v] w fun e w' => e = .returned (pairOf ((p.num + q.num) % 340282366920938463463374607431768211456)).v ∧ Touch [] w w' := by
  obtain ⟨hl, hh⟩ := padd_law p q
  obtain ⟨r, hr⟩ : ∃ r, pairOf ((p.num + q.num) % 340282366920938463463374607431768211456) = r := ⟨_, rfl⟩
  rw [hr] at hl hh ⊢
  clear hr
  unfold PairV.v
  by_cases hb : bitsOf (wrap64 (p.lo + q.lo)) < bitsOf p.lo
  · rw [if_pos hb] at hh
    have hd := decide_eq_true hb
    rw [hl, hh]
    clear hl hh hb
    go_enter Tryz.func28, Tryz.ntmps28
    go_wp2_with fail
    refine (below_any _ _ _).mono ?_
    rintro _ _ ⟨rfl, rfl⟩
    rw [hd]
    go_wp2_with fail
    go_returns
    exact ⟨rfl, (((Touch.refl _ _).alloc _).alloc _).alloc _⟩
  · rw [if_neg hb] at hh
    have hd := decide_eq_false hb
    rw [hl, hh]
    clear hl hh hb
    go_enter Tryz.func28, Tryz.ntmps28
    go_wp2_with fail
    refine (below_any _ _ _).mono ?_
    rintro _ _ ⟨rfl, rfl⟩
    rw [hd]
    go_wp2_with fail
    go_returns
    exact ⟨rfl, (((Touch.refl _ _).alloc _).alloc _).alloc _⟩
end Go.Proofs.YtkbchpaofmlhgaaGreatDoor
