/- The contracts of real's small functions: made, Floor, Abs, Signbit, IsInf, Of, Two, One. Sums that are none draw a letter of the tape: the world is touched nowhere, but not the same. -/
import Derived.Test.YtibifcchmccknaaDoorReal1
import Derived.Test.YtibifcchmccknaaDoorWorld
import Derived.Laws.FloatArith
import Derived.Laws.BitsAllLaws
namespace Go.Proofs.YtibifcchmccknaaDoor
open Go.RowKit

/-- is it none? -/
def nanB (x : Nat) : Prop := 9218868437227405312 < Fl.rg x
instance (x : Nat) : Decidable (nanB x) := inferInstanceAs (Decidable (_ < _))
/-- a machine's number as a cell -/
def madeOf (x : Nat) : Int := if nanB x then 9221120237041090560 else cellOf x
def resOf : Option Nat → Int
  | none => 9221120237041090560
  | some r => madeOf r

theorem order_self (x : Nat) : Ieee.double.order x x = if nanB x then none else some .eq := by
  have hn : nanB x ↔ 9218868437227405312 < Fl.rg x := Iff.rfl
  by_cases h1 : Fl.rg x < 9218868437227405312
  · rw [if_neg (by rw [hn]; omega), Fl.order_fin h1 h1, Int.compare_eq_eq.2 rfl]
  · by_cases h2 : Fl.rg x = 9218868437227405312
    · rw [if_neg (by rw [hn]; omega)]
      unfold Ieee.Format.order
      rw [Fl.read_inf h2]
      cases Fl.sg x <;> rfl
    · rw [if_pos (by rw [hn]; omega)]
      unfold Ieee.Format.order
      rw [Fl.read_nan (by omega)]
      rfl

set_option maxRecDepth 100000 in
theorem made_any (x : Nat) (hx : x < 18446744073709551616) (w : World) : Calls Tryd.prog 23 #[.float .f64 x] w fun e w' => e = .returned (.int .i64 (madeOf x)) ∧ w = w' := by
  have h45 := run_tobits x
  have ho : FloatKind.f64.format.order x x = _ := order_self x
  have hc : IntKind.i64.wrap (x : Int) = cellOf x := by
    rw [IntKind.wrap_i64]
    unfold cellOf
    split <;> omega
  unfold madeOf
  by_cases hn : nanB x
  · rw [if_pos hn] at ho ⊢
    have h1 : (FloatKind.f64.format.order x x != some .eq) = true := by rw [ho]; rfl
    clear ho hn
    go_enter Tryd.func23, Tryd.ntmps23
    go_wp2
    go_ret
    exact ⟨rfl, rfl⟩
  · rw [if_neg hn] at ho ⊢
    have h1 : (FloatKind.f64.format.order x x != some .eq) = false := by rw [ho]; rfl
    clear ho hn
    go_enter Tryd.func23, Tryd.ntmps23
    go_wp2_with (simp only [hc])
    go_ret
    exact ⟨rfl, rfl⟩

/-- THE FOUR SUMS: what made tells of it hangs on no tape. -/
theorem nan_cut (x y : Nat) (t : Nat) : nanB ((Question.nanBits .f64 x y).cut t) ∧ (Question.nanBits .f64 x y).cut t < 18446744073709551616 := by
  unfold nanB Fl.rg
  show _ < ((t % 2) * 2 ^ 63 + 0x7ff0000000000000 + 1 + (t / 2) % (2 ^ 52 - 1)) % _ ∧ (t % 2) * 2 ^ 63 + 0x7ff0000000000000 + 1 + (t / 2) % (2 ^ 52 - 1) < _
  have h1 : t % 2 = 0 ∨ t % 2 = 1 := by omega
  have h2 : (t / 2) % (2 ^ 52 - 1) < 2 ^ 52 - 1 := Nat.mod_lt _ (by decide)
  generalize t % 2 = a at h1 ⊢
  generalize (t / 2) % (2 ^ 52 - 1) = b at h2 ⊢
  rcases h1 with rfl | rfl <;> omega
theorem nan_cut2 (b : Bool) (x y : Nat) (t : Nat) : nanB ((Question.nanMinMax .f64 b x y).cut t) ∧ (Question.nanMinMax .f64 b x y).cut t < 18446744073709551616 := by
  unfold nanB Fl.rg
  show _ < ((t % 2) * 2 ^ 63 + 0x7ff0000000000000 + 1 + (t / 2) % (2 ^ 52 - 1)) % _ ∧ (t % 2) * 2 ^ 63 + 0x7ff0000000000000 + 1 + (t / 2) % (2 ^ 52 - 1) < _
  have h1 : t % 2 = 0 ∨ t % 2 = 1 := by omega
  have h2 : (t / 2) % (2 ^ 52 - 1) < 2 ^ 52 - 1 := Nat.mod_lt _ (by decide)
  generalize t % 2 = a at h1 ⊢
  generalize (t / 2) % (2 ^ 52 - 1) = b at h2 ⊢
  rcases h1 with rfl | rfl <;> omega

theorem arith_run {P : Program} (op : BinOp) (hop : op = .add ∨ op = .sub ∨ op = .mul ∨ op = .quo) (t : TypeId) (x y : Nat) (w : World) :
    ∃ v w1, Touch [] w w1 ∧ (binOp op t (.float .f64 x) (.float .f64 y)).run P w = .ok (.float .f64 v) w1 ∧ madeOf v = resOf (floatBits op .f64 x y) ∧ v < 18446744073709551616 := by
  cases hr : floatBits op .f64 x y with
  | some r =>
    refine ⟨r, w, Touch.refl _ _, run_float_arith w op t .f64 x y r hr, rfl, ?_⟩
    have := floatBits_wf hr
    simpa [Lit.wf] using this
  | none =>
    refine ⟨(Question.nanBits .f64 x y).cut (w.tape w.drawn (.nanBits .f64 x y)), w.drew, (Touch.refl _ _).drew, ?_, ?_, (nan_cut _ _ _).2⟩
    · rcases hop with rfl | rfl | rfl | rfl <;>
      · simp only [floatBits] at hr
        simp [binOp, Op.floatArith, hr]
        exact fun h => by cases h
    · unfold madeOf resOf; rw [if_pos (nan_cut _ _ _).1]

def minOf (x y : Nat) : Option Nat := match Ieee.double.order x y with
  | none => none
  | some .lt => some x
  | some .gt => some y
  | some .eq => some (if Fl.sg x then x else y)
def maxOf (x y : Nat) : Option Nat := match Ieee.double.order x y with
  | none => none
  | some .lt => some y
  | some .gt => some x
  | some .eq => some (if Fl.sg x then y else x)
theorem read_neg (x : Nat) : (FloatKind.f64.decode x).neg = Fl.sg x := by
  change (Ieee.double.read x).neg = _
  by_cases h1 : Fl.rg x < 9218868437227405312
  · rw [Fl.read_fin h1]; rfl
  · by_cases h2 : Fl.rg x = 9218868437227405312
    · rw [Fl.read_inf h2]; rfl
    · rw [Fl.read_nan (by omega)]; rfl

theorem min_run {P : Program} (ts : Array TypeId) (t : TypeId) (x y : Nat) (hx : x < 18446744073709551616) (hy : y < 18446744073709551616) (w : World) :
    ∃ v w1, Touch [] w w1 ∧ (Builtin.min_ ts t #[.float .f64 x, .float .f64 y]).run P w = .ok (.float .f64 v) w1 ∧ madeOf v = resOf (minOf x y) ∧ v < 18446744073709551616 := by
  unfold minOf
  rcases ho : Ieee.double.order x y with _ | o
  · have ho' : FloatKind.f64.format.order x y = none := ho
    refine ⟨(Question.nanMinMax .f64 false x y).cut (w.tape w.drawn (.nanMinMax .f64 false x y)), w.drew, (Touch.refl _ _).drew, ?_, ?_, (nan_cut2 _ _ _ _).2⟩
    · simp [Builtin.min_, Builtin.min2, ho']
      exact fun h => by cases h
    · unfold madeOf resOf; rw [if_pos (nan_cut2 _ _ _ _).1]
  · have ho' : FloatKind.f64.format.order x y = some o := ho
    cases o
    · exact ⟨x, w, Touch.refl _ _, by simp [Builtin.min_, Builtin.min2, ho'], rfl, hx⟩
    · exact ⟨if Fl.sg x then x else y, w, Touch.refl _ _, by simp [Builtin.min_, Builtin.min2, ho', read_neg], rfl, by split <;> assumption⟩
    · exact ⟨y, w, Touch.refl _ _, by simp [Builtin.min_, Builtin.min2, ho'], rfl, hy⟩
theorem max_run {P : Program} (ts : Array TypeId) (t : TypeId) (x y : Nat) (hx : x < 18446744073709551616) (hy : y < 18446744073709551616) (w : World) :
    ∃ v w1, Touch [] w w1 ∧ (Builtin.max_ ts t #[.float .f64 x, .float .f64 y]).run P w = .ok (.float .f64 v) w1 ∧ madeOf v = resOf (maxOf x y) ∧ v < 18446744073709551616 := by
  unfold maxOf
  rcases ho : Ieee.double.order x y with _ | o
  · have ho' : FloatKind.f64.format.order x y = none := ho
    refine ⟨(Question.nanMinMax .f64 true x y).cut (w.tape w.drawn (.nanMinMax .f64 true x y)), w.drew, (Touch.refl _ _).drew, ?_, ?_, (nan_cut2 _ _ _ _).2⟩
    · simp [Builtin.max_, Builtin.max2, ho']
      exact fun h => by cases h
    · unfold madeOf resOf; rw [if_pos (nan_cut2 _ _ _ _).1]
  · have ho' : FloatKind.f64.format.order x y = some o := ho
    cases o
    · exact ⟨y, w, Touch.refl _ _, by simp [Builtin.max_, Builtin.max2, ho'], rfl, hy⟩
    · exact ⟨if Fl.sg x then y else x, w, Touch.refl _ _, by simp [Builtin.max_, Builtin.max2, ho', read_neg], rfl, by split <;> assumption⟩
    · exact ⟨x, w, Touch.refl _ _, by simp [Builtin.max_, Builtin.max2, ho'], rfl, hx⟩

def truthC (b : Bool) : Int := if b then -1 else 0
theorem truth_any (b : Bool) (w : World) : Calls Tryd.prog 24 #[.bool b] w fun e w' => e = .returned (.int .i64 (truthC b)) ∧ w = w' := by
  cases b
  · go_enter Tryd.func24, Tryd.ntmps24
    go_wp2
    go_ret
    exact ⟨rfl, rfl⟩
  · go_enter Tryd.func24, Tryd.ntmps24
    go_wp2
    go_ret
    exact ⟨rfl, rfl⟩

theorem of_any (n : Int) (w : World) : Calls Tryd.prog 13 #[.int .i64 n] w fun e w' => e = .returned (.int .i64 (madeOf (floatOfInt .f64 n))) ∧ w = w' := by
  have hb : floatOfInt .f64 n < 18446744073709551616 := by
    have := floatOfInt_wf .f64 n
    simpa [Lit.wf] using this
  go_enter Tryd.func13, Tryd.ntmps13
  go_wp2_with fail
  refine (made_any _ hb _).mono ?_
  rintro _ _ ⟨rfl, rfl⟩
  go_wp2_with fail
  go_ret
  exact ⟨rfl, rfl⟩

set_option maxRecDepth 100000 in
theorem two_add (a b : Int) (w : World) : Calls Tryd.prog 10 #[.int .i64 3, .int .i64 a, .int .i64 b] w fun e w' => e = .returned (.tuple #[.int .i64 (resOf (floatBits .add .f64 (bitsOf a) (bitsOf b))), .int .i64 0]) ∧ Touch [] w w' := by
  obtain ⟨v, w1, ht, hrun, hv, hlt⟩ := arith_run (P := Tryd.prog) .add (by simp) 40 (bitsOf a) (bitsOf b) w
  rw [← hv]
  clear hv
  go_enter Tryd.func10, Tryd.ntmps10
  go_wp2_with fail
  refine (number_any a _).mono ?_
  rintro _ _ ⟨rfl, rfl⟩
  go_wp2_with fail
  refine (number_any b _).mono ?_
  rintro _ _ ⟨rfl, rfl⟩
  go_wp2_with fail
  refine (made_any v hlt _).mono ?_
  rintro _ _ ⟨rfl, rfl⟩
  go_wp2_with fail
  go_ret2
  exact ⟨rfl, ht⟩

set_option maxRecDepth 100000 in
theorem two_sub (a b : Int) (w : World) : Calls Tryd.prog 10 #[.int .i64 4, .int .i64 a, .int .i64 b] w fun e w' => e = .returned (.tuple #[.int .i64 (resOf (floatBits .sub .f64 (bitsOf a) (bitsOf b))), .int .i64 0]) ∧ Touch [] w w' := by
  obtain ⟨v, w1, ht, hrun, hv, hlt⟩ := arith_run (P := Tryd.prog) .sub (by simp) 40 (bitsOf a) (bitsOf b) w
  rw [← hv]
  clear hv
  go_enter Tryd.func10, Tryd.ntmps10
  go_wp2_with fail
  refine (number_any a _).mono ?_
  rintro _ _ ⟨rfl, rfl⟩
  go_wp2_with fail
  refine (number_any b _).mono ?_
  rintro _ _ ⟨rfl, rfl⟩
  go_wp2_with fail
  refine (made_any v hlt _).mono ?_
  rintro _ _ ⟨rfl, rfl⟩
  go_wp2_with fail
  go_ret2
  exact ⟨rfl, ht⟩

set_option maxRecDepth 100000 in
theorem two_mul (a b : Int) (w : World) : Calls Tryd.prog 10 #[.int .i64 5, .int .i64 a, .int .i64 b] w fun e w' => e = .returned (.tuple #[.int .i64 (resOf (floatBits .mul .f64 (bitsOf a) (bitsOf b))), .int .i64 0]) ∧ Touch [] w w' := by
  obtain ⟨v, w1, ht, hrun, hv, hlt⟩ := arith_run (P := Tryd.prog) .mul (by simp) 40 (bitsOf a) (bitsOf b) w
  rw [← hv]
  clear hv
  go_enter Tryd.func10, Tryd.ntmps10
  go_wp2_with fail
  refine (number_any a _).mono ?_
  rintro _ _ ⟨rfl, rfl⟩
  go_wp2_with fail
  refine (number_any b _).mono ?_
  rintro _ _ ⟨rfl, rfl⟩
  go_wp2_with fail
  refine (made_any v hlt _).mono ?_
  rintro _ _ ⟨rfl, rfl⟩
  go_wp2_with fail
  go_ret2
  exact ⟨rfl, ht⟩

set_option maxRecDepth 100000 in
theorem two_div (a b : Int) (w : World) : Calls Tryd.prog 10 #[.int .i64 6, .int .i64 a, .int .i64 b] w fun e w' => e = .returned (.tuple #[.int .i64 (resOf (floatBits .quo .f64 (bitsOf a) (bitsOf b))), .int .i64 0]) ∧ Touch [] w w' := by
  obtain ⟨v, w1, ht, hrun, hv, hlt⟩ := arith_run (P := Tryd.prog) .quo (by simp) 40 (bitsOf a) (bitsOf b) w
  rw [← hv]
  clear hv
  go_enter Tryd.func10, Tryd.ntmps10
  go_wp2_with fail
  refine (number_any a _).mono ?_
  rintro _ _ ⟨rfl, rfl⟩
  go_wp2_with fail
  refine (number_any b _).mono ?_
  rintro _ _ ⟨rfl, rfl⟩
  go_wp2_with fail
  refine (made_any v hlt _).mono ?_
  rintro _ _ ⟨rfl, rfl⟩
  go_wp2_with fail
  go_ret2
  exact ⟨rfl, ht⟩

set_option maxRecDepth 100000 in
theorem two_min (a b : Int) (w : World) : Calls Tryd.prog 10 #[.int .i64 7, .int .i64 a, .int .i64 b] w fun e w' => e = .returned (.tuple #[.int .i64 (resOf (minOf (bitsOf a) (bitsOf b))), .int .i64 0]) ∧ Touch [] w w' := by
  obtain ⟨v, w1, ht, hrun, hv, hlt⟩ := min_run (P := Tryd.prog) #[40, 40] 40 (bitsOf a) (bitsOf b) (bitsOf_lt a) (bitsOf_lt b) w
  rw [← hv]
  clear hv
  go_enter Tryd.func10, Tryd.ntmps10
  go_wp2_with fail
  refine (number_any a _).mono ?_
  rintro _ _ ⟨rfl, rfl⟩
  go_wp2_with fail
  refine (number_any b _).mono ?_
  rintro _ _ ⟨rfl, rfl⟩
  go_wp2_with fail
  refine (made_any v hlt _).mono ?_
  rintro _ _ ⟨rfl, rfl⟩
  go_wp2_with fail
  go_ret2
  exact ⟨rfl, ht⟩

set_option maxRecDepth 100000 in
theorem two_max (a b : Int) (w : World) : Calls Tryd.prog 10 #[.int .i64 8, .int .i64 a, .int .i64 b] w fun e w' => e = .returned (.tuple #[.int .i64 (resOf (maxOf (bitsOf a) (bitsOf b))), .int .i64 0]) ∧ Touch [] w w' := by
  obtain ⟨v, w1, ht, hrun, hv, hlt⟩ := max_run (P := Tryd.prog) #[40, 40] 40 (bitsOf a) (bitsOf b) (bitsOf_lt a) (bitsOf_lt b) w
  rw [← hv]
  clear hv
  go_enter Tryd.func10, Tryd.ntmps10
  go_wp2_with fail
  refine (number_any a _).mono ?_
  rintro _ _ ⟨rfl, rfl⟩
  go_wp2_with fail
  refine (number_any b _).mono ?_
  rintro _ _ ⟨rfl, rfl⟩
  go_wp2_with fail
  refine (made_any v hlt _).mono ?_
  rintro _ _ ⟨rfl, rfl⟩
  go_wp2_with fail
  go_ret2
  exact ⟨rfl, ht⟩

set_option maxRecDepth 100000 in
theorem two_less (a b : Int) (w : World) : Calls Tryd.prog 10 #[.int .i64 9, .int .i64 a, .int .i64 b] w fun e w' => e = .returned (.tuple #[.int .i64 (truthC (Ieee.double.order (bitsOf a) (bitsOf b) == some .lt)), .int .i64 0]) ∧ w = w' := by
  go_enter Tryd.func10, Tryd.ntmps10
  go_wp2_with fail
  refine (number_any a _).mono ?_
  rintro _ _ ⟨rfl, rfl⟩
  go_wp2_with fail
  refine (number_any b _).mono ?_
  rintro _ _ ⟨rfl, rfl⟩
  go_wp2_with fail
  refine (truth_any _ _).mono ?_
  rintro _ _ ⟨rfl, rfl⟩
  go_wp2_with fail
  go_ret2
  exact ⟨rfl, rfl⟩

set_option maxRecDepth 100000 in
theorem two_equal (a b : Int) (w : World) : Calls Tryd.prog 10 #[.int .i64 10, .int .i64 a, .int .i64 b] w fun e w' => e = .returned (.tuple #[.int .i64 (truthC (Ieee.double.order (bitsOf a) (bitsOf b) == some .eq)), .int .i64 0]) ∧ w = w' := by
  go_enter Tryd.func10, Tryd.ntmps10
  go_wp2_with fail
  refine (number_any a _).mono ?_
  rintro _ _ ⟨rfl, rfl⟩
  go_wp2_with fail
  refine (number_any b _).mono ?_
  rintro _ _ ⟨rfl, rfl⟩
  go_wp2_with fail
  refine (truth_any _ _).mono ?_
  rintro _ _ ⟨rfl, rfl⟩
  go_wp2_with fail
  go_ret2
  exact ⟨rfl, rfl⟩

set_option maxRecDepth 100000 in
theorem abs_any (x : Nat) (hx : x < 18446744073709551616) (w : World) : Calls Tryd.prog 26 #[.float .f64 x] w fun e w' => e = .returned (.float .f64 (Fl.rg x)) ∧ w = w' := by
  have h45 := run_tobits x
  have h44 := run_frombits
  have e1 : bits BinOp.andNot IntKind.u64 (x : Int) 9223372036854775808 = ((Fl.rg x : Nat) : Int) := by
    have := Go.u64_andNot_nat x 9223372036854775808 hx (by omega)
    rw [show ((9223372036854775808 : Nat) : Int) = 9223372036854775808 from rfl] at this
    rw [this, show (18446744073709551615 - 9223372036854775808 : Nat) = 2 ^ 63 - 1 from rfl, Nat.and_two_pow_sub_one_eq_mod]
    rfl
  have h44 := run_frombits (Fl.rg x)
  rw [Int.toNat_natCast] at h44
  go_enter Tryd.func26, Tryd.ntmps26
  go_wp2_with (simp only [e1])
  go_ret
  exact ⟨rfl, rfl⟩

set_option maxRecDepth 100000 in
theorem floor_any (x v : Nat) (w w1 : World) (h46 : (callFunc 46 #[.float .f64 x]).run Tryd.prog w = .ok (.value (.float .f64 v)) w1) : Calls Tryd.prog 25 #[.float .f64 x] w fun e w' => e = .returned (.float .f64 v) ∧ w1 = w' := by
  go_enter Tryd.func25, Tryd.ntmps25
  go_wp2
  go_ret
  exact ⟨rfl, rfl⟩

set_option maxRecDepth 100000 in
theorem signbit_any (x : Nat) (hx : x < 18446744073709551616) (w : World) : Calls Tryd.prog 38 #[.float .f64 x] w fun e w' => e = .returned (.bool (Fl.sg x)) ∧ w = w' := by
  have h45 := run_tobits x
  have h1 : decide (wrap64 (x : Int) < 0) = Fl.sg x := by
    unfold Fl.sg wrap64
    by_cases h : x < 9223372036854775808
    · have : x / 9223372036854775808 = 0 := by omega
      rw [this]
      simp; omega
    · have : x / 9223372036854775808 = 1 := by omega
      rw [this]
      simp; omega
  go_enter Tryd.func38, Tryd.ntmps38
  go_wp2_with (simp only [h1])
  go_ret
  exact ⟨rfl, rfl⟩

/-- a number with its sign turned -/
def negOf (x : Nat) : Nat := if x < 9223372036854775808 then 9223372036854775808 + x else x - 9223372036854775808
theorem xor_low (b : Nat) (h : b < 2 ^ 63) : b ^^^ 2 ^ 63 = 2 ^ 63 + b := by
  have e := Nat.two_pow_add_eq_or_of_lt h 1
  rw [Nat.mul_one] at e
  rw [e]
  apply Nat.eq_of_testBit_eq
  intro i
  rw [Nat.testBit_xor, Nat.testBit_or, Nat.testBit_two_pow]
  by_cases hi : 63 = i
  · subst hi
    rw [Nat.testBit_lt_two_pow h]
    rfl
  · simp [hi]
theorem negFloat_eq (x : Nat) (hx : x < 18446744073709551616) : Op.negFloat .f64 x = negOf x := by
  change x ^^^ 2 ^ 63 = _
  unfold negOf
  by_cases h : x < 9223372036854775808
  · rw [if_pos h, xor_low x h]
  · rw [if_neg h]
    have := xor_low (x - 9223372036854775808) (by omega)
    have e : x = (x - 9223372036854775808) ^^^ 2 ^ 63 := by rw [this]; omega
    rw [show x ^^^ 2 ^ 63 = ((x - 9223372036854775808) ^^^ 2 ^ 63) ^^^ 2 ^ 63 by rw [← e], Nat.xor_assoc, Nat.xor_self, Nat.xor_zero]
theorem sg_neg (x : Nat) (hx : x < 18446744073709551616) : Fl.sg (negOf x) = !Fl.sg x := by
  unfold negOf Fl.sg
  split
  · rw [show (9223372036854775808 + x) / 9223372036854775808 = 1 by omega, show x / 9223372036854775808 = 0 by omega]; rfl
  · rw [show (x - 9223372036854775808) / 9223372036854775808 = 0 by omega, show x / 9223372036854775808 = 1 by omega]; rfl
theorem rg_neg (x : Nat) : Fl.rg (negOf x) = Fl.rg x := by
  unfold negOf Fl.rg
  split <;> omega
theorem neg_lt (x : Nat) (hx : x < 18446744073709551616) : negOf x < 18446744073709551616 := by
  unfold negOf
  split <;> omega

theorem bits_made (x : Nat) (hx : x < 18446744073709551616) (hn : ¬ nanB x) : bitsOf (madeOf x) = x := by
  unfold madeOf bitsOf cellOf
  rw [if_neg hn]
  split <;> omega
theorem rg_lt (x : Nat) : Fl.rg x < 9223372036854775808 := Nat.mod_lt _ (by decide)
theorem sg_rg (x : Nat) : Fl.sg (Fl.rg x) = false := by
  have := rg_lt x
  unfold Fl.sg
  rw [show Fl.rg x / 9223372036854775808 = 0 by omega]
  rfl
theorem rg_rg (x : Nat) : Fl.rg (Fl.rg x) = Fl.rg x := by
  have := rg_lt x
  unfold Fl.rg at *
  omega

/-- is it without end? -/
theorem order_big (x : Nat) : (FloatKind.f64.format.order (Fl.rg x) 9218868437227405311 == some .gt) = (Fl.rg x == 9218868437227405312) := by
  change (Ieee.double.order (Fl.rg x) 9218868437227405311 == some .gt) = _
  have hb : Fl.fin 9218868437227405311 := by unfold Fl.fin; decide
  by_cases h1 : Fl.rg x < 9218868437227405312
  · have hf : Fl.fin (Fl.rg x) := by unfold Fl.fin; rw [rg_rg]; exact h1
    rw [Fl.order_fin hf hb]
    have e1 : Fl.Zv (Fl.rg x) = Fl.Nv (Fl.rg x) := by unfold Fl.Zv; rw [sg_rg, rg_rg]; rfl
    have e2 : Fl.Zv 9218868437227405311 = Fl.Nv 9218868437227405311 := by unfold Fl.Zv; rw [show Fl.sg 9218868437227405311 = false by decide, show Fl.rg 9218868437227405311 = 9218868437227405311 by decide]; rfl
    have hle : Fl.Nv (Fl.rg x) ≤ Fl.Nv 9218868437227405311 := by
      by_cases h2 : Fl.rg x = 9218868437227405311
      · rw [h2]; exact Nat.le_refl _
      · exact Nat.le_of_lt (Fl.Nv_lt (by omega))
    rw [e1, e2, beq_eq_false_iff_ne.2 (show Fl.rg x ≠ 9218868437227405312 by omega)]
    rcases Nat.lt_or_ge (Fl.Nv (Fl.rg x)) (Fl.Nv 9218868437227405311) with h | h
    · rw [Int.compare_eq_lt.2 (by exact_mod_cast h)]; rfl
    · rw [show Fl.Nv (Fl.rg x) = Fl.Nv 9218868437227405311 from Nat.le_antisymm hle h, Int.compare_eq_eq.2 rfl]; rfl
  · by_cases h2 : Fl.rg x = 9218868437227405312
    · rw [h2]; decide
    · rw [beq_eq_false_iff_ne.2 h2]
      unfold Ieee.Format.order
      rw [Fl.read_nan (w := Fl.rg x) (by rw [rg_rg]; omega)]
      rfl

set_option maxRecDepth 100000 in
theorem isInf_any (x : Nat) (hx : x < 18446744073709551616) (w : World) : Calls Tryd.prog 39 #[.float .f64 x, .int .i64 0] w fun e w' => e = .returned (.bool (Fl.rg x == 9218868437227405312)) ∧ w = w' := by
  have h1 := order_big x
  go_enter Tryd.func39, Tryd.ntmps39
  go_wp2_with fail
  refine (abs_any x hx _).mono ?_
  rintro _ _ ⟨rfl, rfl⟩
  go_wp2_with fail
  go_ret
  exact ⟨rfl, rfl⟩

set_option maxRecDepth 100000 in
theorem one_abs (a : Int) (w : World) : Calls Tryd.prog 17 #[.int .i64 2, .int .i64 a] w fun e w' => e = .returned (.tuple #[.int .i64 (madeOf (Fl.rg (bitsOf a))), .int .i64 0]) ∧ w = w' := by
  go_enter Tryd.func17, Tryd.ntmps17
  go_wp2_with fail
  refine (number_any a _).mono ?_
  rintro _ _ ⟨rfl, rfl⟩
  go_wp2_with fail
  refine (abs_any _ (bitsOf_lt a) _).mono ?_
  rintro _ _ ⟨rfl, rfl⟩
  go_wp2_with fail
  refine (made_any _ (Nat.lt_trans (rg_lt _) (by decide)) _).mono ?_
  rintro _ _ ⟨rfl, rfl⟩
  go_wp2_with fail
  go_ret2
  exact ⟨rfl, rfl⟩

end Go.Proofs.YtibifcchmccknaaDoor
