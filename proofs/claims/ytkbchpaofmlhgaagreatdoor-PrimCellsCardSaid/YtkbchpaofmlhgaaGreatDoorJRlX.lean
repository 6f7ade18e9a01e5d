import Derived.Test.YtkbchpaofmlhgaaGreatDoorReals7
import Derived.Test.YtkbchpaofmlhgaaGreatDoorJFloatA
import Derived.Laws.Bits64b
import Derived.Lib.TrailingZeros
import Derived.Laws.FloatArith
import Derived.Laws.BitsAllLaws
import Derived.Test.YtkbchpaofmlhgaaGreatDoorShelf7
import Derived.Lib.ItoaMem
import Derived.Lib.AppendIntMem
/- The contracts of package real: its small functions, One, Two (collected by mkrealp.py out of XReal1, XReal2). -/
namespace Go.Proofs.YtkbchpaofmlhgaaGreatDoor.Rl
open Go.RowKit

/-- the machine's own four: bits as a number and back, and what is rounded -/
theorem run_frombits (n : Int) (w : World) : (callFunc 205 #[.int .u64 n]).run Tryz.prog w = .ok (.value (.float .f64 n.toNat)) w := by
  rw [run_callFunc_extern Tryz.func205 (by kernel_rfl) (by kernel_rfl) (by kernel_rfl) (e := Extern.MathFloatBits.float64frombits) (by kernel_rfl)]
  rfl
theorem run_tobits (n : Nat) (w : World) : (callFunc 206 #[.float .f64 n]).run Tryz.prog w = .ok (.value (.int .u64 n)) w := by
  rw [run_callFunc_extern Tryz.func206 (by kernel_rfl) (by kernel_rfl) (by kernel_rfl) (e := Extern.MathFloatBits.float64bits) (by kernel_rfl)]
  rfl
theorem run_floor (x : Nat) (h : Fl.fin x) (w : World) : (callFunc 240 #[.float .f64 x]).run Tryz.prog w = .ok (.value (.float .f64 (FloatKind.f64.encode ((FloatKind.f64.decode x).integral .down)))) w := by
  rw [run_callFunc_extern Tryz.func240 (by kernel_rfl) (by kernel_rfl) (by kernel_rfl) (e := Extern.MathFloor.toIntegral "math.archFloor" .down) (by kernel_rfl)]
  have e : FloatKind.f64.decode x = .number (Fl.sg x) (Fl.M (Fl.rg x)) (-1074 + (Fl.E (Fl.rg x) : Int)) := Fl.read_fin h
  obtain ⟨F, hF⟩ : ∃ F : Bool → Nat → Sem Value, Extern.MathFloor.toIntegral "math.archFloor" .down #[.float .f64 x] = (match FloatKind.f64.decode x with
    | .nan s t => F s t
    | d => pure (.float .f64 (FloatKind.f64.encode (d.integral .down)))) := ⟨_, rfl⟩
  rw [hF, e]
  rfl
set_option maxRecDepth 100000 in
theorem number_any (a : Int) (w : World) : Calls Tryz.prog 97 #[.int .i64 a] w fun e w' => e = .returned (.float .f64 (bitsOf a)) ∧ w = w' := by
  have h44 := run_frombits (IntKind.u64.wrap a)
  have e : (IntKind.u64.wrap a).toNat = bitsOf a := by rw [IntKind.wrap_u64]; rfl
  rw [e] at h44
  clear e
  go_enter Tryz.func97, Tryz.ntmps97
  go_wp2
  go_ret
  exact ⟨rfl, rfl⟩
theorem tz_key (x a : Nat) (hx : x < 18446744073709551616) (hlow : x &&& (18446744073709551616 - x) = a) :
    IntKind.u64.wrap (bits BinOp.and IntKind.u64 (x : Int) (IntKind.u64.wrap (-(x : Int))) * 285870213051353865) / 288230376151711744 = ((a * 285870213051353865 % 18446744073709551616 / 288230376151711744 : Nat) : Int) := by
  by_cases h0 : x = 0
  · subst h0
    have : a = 0 := by rw [← hlow]; simp
    subst this
    decide
  have e1 : IntKind.u64.wrap (-(x : Int)) = ((18446744073709551616 - x : Nat) : Int) := by rw [IntKind.wrap_u64]; omega
  rw [e1, bits_and_u64_nat x _ hx (by omega), hlow, IntKind.wrap_u64]
  omega
/-- the table in its variable -/
def TzTab (w : World) : Prop := ∀ j, j < Lib.deBruijn64tab.length → w.cell? ⟨3, j, none⟩ = some (.int .u8 (Lib.deBruijn64tab.getD j 0))
set_option maxHeartbeats 1000000 in
theorem tz_any (x : Nat) (hx : x < 18446744073709551616) (h0 : x ≠ 0) (w : World) (hT : TzTab w) :
    Calls Tryz.prog 242 #[.int .u64 x] w fun e w' => e = .returned (.int .i64 (Lib.ctz 64 x)) ∧ w = w' := by
  obtain ⟨hlow, hk⟩ := Lib.lowest_bit 64 x h0 hx
  obtain ⟨hi, htab⟩ := Lib.deBruijn64_at _ hk
  have key := tz_key x _ hx hlow
  have hc := hT _ (show _ < Lib.deBruijn64tab.length from hi)
  rw [htab] at hc
  obtain ⟨i, hie⟩ : ∃ i, 2 ^ Lib.ctz 64 x * 285870213051353865 % 18446744073709551616 / 288230376151711744 = i := ⟨_, rfl⟩
  rw [hie] at key hc hi
  obtain ⟨k, hke⟩ : ∃ k, Lib.ctz 64 x = k := ⟨_, rfl⟩
  rw [hke] at hc hk ⊢
  have hx0 : ((x : Int) == 0) = false := by rw [beq_eq_false_iff_ne]; omega
  clear hlow htab hie hke hT h0
  go_enter Tryz.func242, Tryz.ntmps242
  go_wp2_with (simp only [key])
  go_ret
  exact ⟨rfl, rfl⟩
/-- is it none? -/
def nanB (x : Nat) : Prop := 9218868437227405312 < Fl.rg x
instance (x : Nat) : Decidable (nanB x) := inferInstanceAs (Decidable (_ < _))
/-- a machine's number as a cell -/
def madeOf (x : Nat) : Int := if nanB x then 9221120237041090560 else cellOf x
def resOf : Option Nat → Int
  | none => 9221120237041090560
  | some r => madeOf r
theorem order_self (x : Nat) : Ieee.double.order x x = if nanB x then none else some .eq := by
  have hn : nanB x ↔ 9218868437227405312 < Fl.rg x := Iff.rfl
  by_cases h1 : Fl.rg x < 9218868437227405312
  · rw [if_neg (by rw [hn]; omega), Fl.order_fin h1 h1, Int.compare_eq_eq.2 rfl]
  · by_cases h2 : Fl.rg x = 9218868437227405312
    · rw [if_neg (by rw [hn]; omega)]
      unfold Ieee.Format.order
      rw [Fl.read_inf h2]
      cases Fl.sg x <;> rfl
    · rw [if_pos (by rw [hn]; omega)]
      unfold Ieee.Format.order
      rw [Fl.read_nan (by omega)]
      rfl
set_option maxRecDepth 100000 in
theorem made_any (x : Nat) (hx : x < 18446744073709551616) (w : World) : Calls Tryz.prog 98 #[.float .f64 x] w fun e w' => e = .returned (.int .i64 (madeOf x)) ∧ w = w' := by
  have h45 := run_tobits x
  have ho : FloatKind.f64.format.order x x = _ := order_self x
  have hc : IntKind.i64.wrap (x : Int) = cellOf x := by
    rw [IntKind.wrap_i64]
    unfold cellOf
    split <;> omega
  unfold madeOf
  by_cases hn : nanB x
  · rw [if_pos hn] at ho ⊢
    have h1 : (FloatKind.f64.format.order x x != some .eq) = true := by rw [ho]; rfl
    clear ho hn
    go_enter Tryz.func98, Tryz.ntmps98
    go_wp2
    go_ret
    exact ⟨rfl, rfl⟩
  · rw [if_neg hn] at ho ⊢
    have h1 : (FloatKind.f64.format.order x x != some .eq) = false := by rw [ho]; rfl
    clear ho hn
    go_enter Tryz.func98, Tryz.ntmps98
    go_wp2_with (simp only [hc])
    go_ret
    exact ⟨rfl, rfl⟩
/-- THE FOUR SUMS: what made tells of it hangs on no tape. -/
theorem nan_cut (x y : Nat) (t : Nat) : nanB ((Question.nanBits .f64 x y).cut t) ∧ (Question.nanBits .f64 x y).cut t < 18446744073709551616 := by
  unfold nanB Fl.rg
  show _ < ((t % 2) * 2 ^ 63 + 0x7ff0000000000000 + 1 + (t / 2) % (2 ^ 52 - 1)) % _ ∧ (t % 2) * 2 ^ 63 + 0x7ff0000000000000 + 1 + (t / 2) % (2 ^ 52 - 1) < _
  have h1 : t % 2 = 0 ∨ t % 2 = 1 := by omega
  have h2 : (t / 2) % (2 ^ 52 - 1) < 2 ^ 52 - 1 := Nat.mod_lt _ (by decide)
  generalize t % 2 = a at h1 ⊢
  generalize (t / 2) % (2 ^ 52 - 1) = b at h2 ⊢
  rcases h1 with rfl | rfl <;> omega
theorem nan_cut2 (b : Bool) (x y : Nat) (t : Nat) : nanB ((Question.nanMinMax .f64 b x y).cut t) ∧ (Question.nanMinMax .f64 b x y).cut t < 18446744073709551616 := by
  unfold nanB Fl.rg
  show _ < ((t % 2) * 2 ^ 63 + 0x7ff0000000000000 + 1 + (t / 2) % (2 ^ 52 - 1)) % _ ∧ (t % 2) * 2 ^ 63 + 0x7ff0000000000000 + 1 + (t / 2) % (2 ^ 52 - 1) < _
  have h1 : t % 2 = 0 ∨ t % 2 = 1 := by omega
  have h2 : (t / 2) % (2 ^ 52 - 1) < 2 ^ 52 - 1 := Nat.mod_lt _ (by decide)
  generalize t % 2 = a at h1 ⊢
  generalize (t / 2) % (2 ^ 52 - 1) = b at h2 ⊢
  rcases h1 with rfl | rfl <;> omega
theorem arith_run {P : Program} (op : BinOp) (hop : op = .add ∨ op = .sub ∨ op = .mul ∨ op = .quo) (t : TypeId) (x y : Nat) (w : World) :
    ∃ v w1, Touch [] w w1 ∧ (binOp op t (.float .f64 x) (.float .f64 y)).run P w = .ok (.float .f64 v) w1 ∧ madeOf v = resOf (floatBits op .f64 x y) ∧ v < 18446744073709551616 := by
  cases hr : floatBits op .f64 x y with
  | some r =>
    refine ⟨r, w, Touch.refl _ _, run_float_arith w op t .f64 x y r hr, rfl, ?_⟩
    have := floatBits_wf hr
    simpa [Lit.wf] using this
  | none =>
    refine ⟨(Question.nanBits .f64 x y).cut (w.tape w.drawn (.nanBits .f64 x y)), w.drew, (Touch.refl _ _).drew, ?_, ?_, (nan_cut _ _ _).2⟩
    · rcases hop with rfl | rfl | rfl | rfl <;>
      · simp only [floatBits] at hr
        simp [binOp, Op.floatArith, hr]
        exact fun h => by cases h
    · unfold madeOf resOf; rw [if_pos (nan_cut _ _ _).1]
def minOf (x y : Nat) : Option Nat := match Ieee.double.order x y with
  | none => none
  | some .lt => some x
  | some .gt => some y
  | some .eq => some (if Fl.sg x then x else y)
def maxOf (x y : Nat) : Option Nat := match Ieee.double.order x y with
  | none => none
  | some .lt => some y
  | some .gt => some x
  | some .eq => some (if Fl.sg x then y else x)
theorem read_neg (x : Nat) : (FloatKind.f64.decode x).neg = Fl.sg x := by
  change (Ieee.double.read x).neg = _
  by_cases h1 : Fl.rg x < 9218868437227405312
  · rw [Fl.read_fin h1]; rfl
  · by_cases h2 : Fl.rg x = 9218868437227405312
    · rw [Fl.read_inf h2]; rfl
    · rw [Fl.read_nan (by omega)]; rfl
theorem min_run {P : Program} (ts : Array TypeId) (t : TypeId) (x y : Nat) (hx : x < 18446744073709551616) (hy : y < 18446744073709551616) (w : World) :
    ∃ v w1, Touch [] w w1 ∧ (Builtin.min_ ts t #[.float .f64 x, .float .f64 y]).run P w = .ok (.float .f64 v) w1 ∧ madeOf v = resOf (minOf x y) ∧ v < 18446744073709551616 := by
  unfold minOf
  rcases ho : Ieee.double.order x y with _ | o
  · have ho' : FloatKind.f64.format.order x y = none := ho
    refine ⟨(Question.nanMinMax .f64 false x y).cut (w.tape w.drawn (.nanMinMax .f64 false x y)), w.drew, (Touch.refl _ _).drew, ?_, ?_, (nan_cut2 _ _ _ _).2⟩
    · simp [Builtin.min_, Builtin.min2, ho']
      exact fun h => by cases h
    · unfold madeOf resOf; rw [if_pos (nan_cut2 _ _ _ _).1]
  · have ho' : FloatKind.f64.format.order x y = some o := ho
    cases o
    · exact ⟨x, w, Touch.refl _ _, by simp [Builtin.min_, Builtin.min2, ho'], rfl, hx⟩
    · exact ⟨if Fl.sg x then x else y, w, Touch.refl _ _, by simp [Builtin.min_, Builtin.min2, ho', read_neg], rfl, by split <;> assumption⟩
    · exact ⟨y, w, Touch.refl _ _, by simp [Builtin.min_, Builtin.min2, ho'], rfl, hy⟩
theorem max_run {P : Program} (ts : Array TypeId) (t : TypeId) (x y : Nat) (hx : x < 18446744073709551616) (hy : y < 18446744073709551616) (w : World) :
    ∃ v w1, Touch [] w w1 ∧ (Builtin.max_ ts t #[.float .f64 x, .float .f64 y]).run P w = .ok (.float .f64 v) w1 ∧ madeOf v = resOf (maxOf x y) ∧ v < 18446744073709551616 := by
  unfold maxOf
  rcases ho : Ieee.double.order x y with _ | o
  · have ho' : FloatKind.f64.format.order x y = none := ho
    refine ⟨(Question.nanMinMax .f64 true x y).cut (w.tape w.drawn (.nanMinMax .f64 true x y)), w.drew, (Touch.refl _ _).drew, ?_, ?_, (nan_cut2 _ _ _ _).2⟩
    · simp [Builtin.max_, Builtin.max2, ho']
      exact fun h => by cases h
    · unfold madeOf resOf; rw [if_pos (nan_cut2 _ _ _ _).1]
  · have ho' : FloatKind.f64.format.order x y = some o := ho
    cases o
    · exact ⟨y, w, Touch.refl _ _, by simp [Builtin.max_, Builtin.max2, ho'], rfl, hy⟩
    · exact ⟨if Fl.sg x then y else x, w, Touch.refl _ _, by simp [Builtin.max_, Builtin.max2, ho', read_neg], rfl, by split <;> assumption⟩
    · exact ⟨x, w, Touch.refl _ _, by simp [Builtin.max_, Builtin.max2, ho'], rfl, hx⟩
def truthC (b : Bool) : Int := if b then -1 else 0
theorem truth_any (b : Bool) (w : World) : Calls Tryz.prog 95 #[.bool b] w fun e w' => e = .returned (.int .i64 (truthC b)) ∧ w = w' := by
  cases b
  · go_enter Tryz.func95, Tryz.ntmps95
    go_wp2
    go_ret
    exact ⟨rfl, rfl⟩
  · go_enter Tryz.func95, Tryz.ntmps95
    go_wp2
    go_ret
    exact ⟨rfl, rfl⟩
theorem of_any (n : Int) (w : World) : Calls Tryz.prog 136 #[.int .i64 n] w fun e w' => e = .returned (.int .i64 (madeOf (floatOfInt .f64 n))) ∧ w = w' := by
  have hb : floatOfInt .f64 n < 18446744073709551616 := by
    have := floatOfInt_wf .f64 n
    simpa [Lit.wf] using this
  go_enter Tryz.func136, Tryz.ntmps136
  go_wp2_with fail
  refine (made_any _ hb _).mono ?_
  rintro _ _ ⟨rfl, rfl⟩
  go_wp2_with fail
  go_ret
  exact ⟨rfl, rfl⟩
set_option maxRecDepth 100000 in
theorem two_add (a b : Int) (w : World) : Calls Tryz.prog 81 #[.int .i64 3, .int .i64 a, .int .i64 b] w fun e w' => e = .returned (.tuple #[.int .i64 (resOf (floatBits .add .f64 (bitsOf a) (bitsOf b))), .int .i64 0]) ∧ Touch [] w w' := by
  obtain ⟨v, w1, ht, hrun, hv, hlt⟩ := arith_run (P := Tryz.prog) .add (by simp) 140 (bitsOf a) (bitsOf b) w
  rw [← hv]
  clear hv
  go_enter Tryz.func81, Tryz.ntmps81
  go_wp2_with fail
  refine (number_any a _).mono ?_
  rintro _ _ ⟨rfl, rfl⟩
  go_wp2_with fail
  refine (number_any b _).mono ?_
  rintro _ _ ⟨rfl, rfl⟩
  go_wp2_with fail
  refine (made_any v hlt _).mono ?_
  rintro _ _ ⟨rfl, rfl⟩
  go_wp2_with fail
  go_ret2
  exact ⟨rfl, ht⟩
set_option maxRecDepth 100000 in
theorem two_sub (a b : Int) (w : World) : Calls Tryz.prog 81 #[.int .i64 4, .int .i64 a, .int .i64 b] w fun e w' => e = .returned (.tuple #[.int .i64 (resOf (floatBits .sub .f64 (bitsOf a) (bitsOf b))), .int .i64 0]) ∧ Touch [] w w' := by
  obtain ⟨v, w1, ht, hrun, hv, hlt⟩ := arith_run (P := Tryz.prog) .sub (by simp) 140 (bitsOf a) (bitsOf b) w
  rw [← hv]
  clear hv
  go_enter Tryz.func81, Tryz.ntmps81
  go_wp2_with fail
  refine (number_any a _).mono ?_
  rintro _ _ ⟨rfl, rfl⟩
  go_wp2_with fail
  refine (number_any b _).mono ?_
  rintro _ _ ⟨rfl, rfl⟩
  go_wp2_with fail
  refine (made_any v hlt _).mono ?_
  rintro _ _ ⟨rfl, rfl⟩
  go_wp2_with fail
  go_ret2
  exact ⟨rfl, ht⟩
set_option maxRecDepth 100000 in
theorem two_mul (a b : Int) (w : World) : Calls Tryz.prog 81 #[.int .i64 5, .int .i64 a, .int .i64 b] w fun e w' => e = .returned (.tuple #[.int .i64 (resOf (floatBits .mul .f64 (bitsOf a) (bitsOf b))), .int .i64 0]) ∧ Touch [] w w' := by
  obtain ⟨v, w1, ht, hrun, hv, hlt⟩ := arith_run (P := Tryz.prog) .mul (by simp) 140 (bitsOf a) (bitsOf b) w
  rw [← hv]
  clear hv
  go_enter Tryz.func81, Tryz.ntmps81
  go_wp2_with fail
  refine (number_any a _).mono ?_
  rintro _ _ ⟨rfl, rfl⟩
  go_wp2_with fail
  refine (number_any b _).mono ?_
  rintro _ _ ⟨rfl, rfl⟩
  go_wp2_with fail
  refine (made_any v hlt _).mono ?_
  rintro _ _ ⟨rfl, rfl⟩
  go_wp2_with fail
  go_ret2
  exact ⟨rfl, ht⟩
set_option maxRecDepth 100000 in
theorem two_div (a b : Int) (w : World) : Calls Tryz.prog 81 #[.int .i64 6, .int .i64 a, .int .i64 b] w fun e w' => e = .returned (.tuple #[.int .i64 (resOf (floatBits .quo .f64 (bitsOf a) (bitsOf b))), .int .i64 0]) ∧ Touch [] w w' := by
  obtain ⟨v, w1, ht, hrun, hv, hlt⟩ := arith_run (P := Tryz.prog) .quo (by simp) 140 (bitsOf a) (bitsOf b) w
  rw [← hv]
  clear hv
  go_enter Tryz.func81, Tryz.ntmps81
  go_wp2_with fail
  refine (number_any a _).mono ?_
  rintro _ _ ⟨rfl, rfl⟩
  go_wp2_with fail
  refine (number_any b _).mono ?_
  rintro _ _ ⟨rfl, rfl⟩
  go_wp2_with fail
  refine (made_any v hlt _).mono ?_
  rintro _ _ ⟨rfl, rfl⟩
  go_wp2_with fail
  go_ret2
  exact ⟨rfl, ht⟩
set_option maxRecDepth 100000 in
theorem two_min (a b : Int) (w : World) : Calls Tryz.prog 81 #[.int .i64 7, .int .i64 a, .int .i64 b] w fun e w' => e = .returned (.tuple #[.int .i64 (resOf (minOf (bitsOf a) (bitsOf b))), .int .i64 0]) ∧ Touch [] w w' := by
  obtain ⟨v, w1, ht, hrun, hv, hlt⟩ := min_run (P := Tryz.prog) #[140, 140] 140 (bitsOf a) (bitsOf b) (bitsOf_lt a) (bitsOf_lt b) w
  rw [← hv]
  clear hv
  go_enter Tryz.func81, Tryz.ntmps81
  go_wp2_with fail
  refine (number_any a _).mono ?_
  rintro _ _ ⟨rfl, rfl⟩
  go_wp2_with fail
  refine (number_any b _).mono ?_
  rintro _ _ ⟨rfl, rfl⟩
  go_wp2_with fail
  refine (made_any v hlt _).mono ?_
  rintro _ _ ⟨rfl, rfl⟩
  go_wp2_with fail
  go_ret2
  exact ⟨rfl, ht⟩
set_option maxRecDepth 100000 in
theorem two_max (a b : Int) (w : World) : Calls Tryz.prog 81 #[.int .i64 8, .int .i64 a, .int .i64 b] w fun e w' => e = .returned (.tuple #[.int .i64 (resOf (maxOf (bitsOf a) (bitsOf b))), .int .i64 0]) ∧ Touch [] w w' := by
  obtain ⟨v, w1, ht, hrun, hv, hlt⟩ := max_run (P := Tryz.prog) #[140, 140] 140 (bitsOf a) (bitsOf b) (bitsOf_lt a) (bitsOf_lt b) w
  rw [← hv]
  clear hv
  go_enter Tryz.func81, Tryz.ntmps81
  go_wp2_with fail
  refine (number_any a _).mono ?_
  rintro _ _ ⟨rfl, rfl⟩
  go_wp2_with fail
  refine (number_any b _).mono ?_
  rintro _ _ ⟨rfl, rfl⟩
  go_wp2_with fail
  refine (made_any v hlt _).mono ?_
  rintro _ _ ⟨rfl, rfl⟩
  go_wp2_with fail
  go_ret2
  exact ⟨rfl, ht⟩
set_option maxRecDepth 100000 in
theorem two_less (a b : Int) (w : World) : Calls Tryz.prog 81 #[.int .i64 9, .int .i64 a, .int .i64 b] w fun e w' => e = .returned (.tuple #[.int .i64 (truthC (Ieee.double.order (bitsOf a) (bitsOf b) == some .lt)), .int .i64 0]) ∧ w = w' := by
  go_enter Tryz.func81, Tryz.ntmps81
  go_wp2_with fail
  refine (number_any a _).mono ?_
  rintro _ _ ⟨rfl, rfl⟩
  go_wp2_with fail
  refine (number_any b _).mono ?_
  rintro _ _ ⟨rfl, rfl⟩
  go_wp2_with fail
  refine (truth_any _ _).mono ?_
  rintro _ _ ⟨rfl, rfl⟩
  go_wp2_with fail
  go_ret2
  exact ⟨rfl, rfl⟩
set_option maxRecDepth 100000 in
theorem two_equal (a b : Int) (w : World) : Calls Tryz.prog 81 #[.int .i64 10, .int .i64 a, .int .i64 b] w fun e w' => e = .returned (.tuple #[.int .i64 (truthC (Ieee.double.order (bitsOf a) (bitsOf b) == some .eq)), .int .i64 0]) ∧ w = w' := by
  go_enter Tryz.func81, Tryz.ntmps81
  go_wp2_with fail
  refine (number_any a _).mono ?_
  rintro _ _ ⟨rfl, rfl⟩
  go_wp2_with fail
  refine (number_any b _).mono ?_
  rintro _ _ ⟨rfl, rfl⟩
  go_wp2_with fail
  refine (truth_any _ _).mono ?_
  rintro _ _ ⟨rfl, rfl⟩
  go_wp2_with fail
  go_ret2
  exact ⟨rfl, rfl⟩
set_option maxRecDepth 100000 in
theorem abs_any (x : Nat) (hx : x < 18446744073709551616) (w : World) : Calls Tryz.prog 99 #[.float .f64 x] w fun e w' => e = .returned (.float .f64 (Fl.rg x)) ∧ w = w' := by
  have h45 := run_tobits x
  have h44 := run_frombits
  have e1 : bits BinOp.andNot IntKind.u64 (x : Int) 9223372036854775808 = ((Fl.rg x : Nat) : Int) := by
    have := Go.u64_andNot_nat x 9223372036854775808 hx (by omega)
    rw [show ((9223372036854775808 : Nat) : Int) = 9223372036854775808 from rfl] at this
    rw [this, show (18446744073709551615 - 9223372036854775808 : Nat) = 2 ^ 63 - 1 from rfl, Nat.and_two_pow_sub_one_eq_mod]
    rfl
  have h44 := run_frombits (Fl.rg x)
  rw [Int.toNat_natCast] at h44
  go_enter Tryz.func99, Tryz.ntmps99
  go_wp2_with (simp only [e1])
  go_ret
  exact ⟨rfl, rfl⟩
set_option maxRecDepth 100000 in
theorem floor_any (x v : Nat) (w w1 : World) (h46 : (callFunc 240 #[.float .f64 x]).run Tryz.prog w = .ok (.value (.float .f64 v)) w1) : Calls Tryz.prog 219 #[.float .f64 x] w fun e w' => e = .returned (.float .f64 v) ∧ w1 = w' := by
  go_enter Tryz.func219, Tryz.ntmps219
  go_wp2
  go_ret
  exact ⟨rfl, rfl⟩
set_option maxRecDepth 100000 in
theorem signbit_any (x : Nat) (hx : x < 18446744073709551616) (w : World) : Calls Tryz.prog 221 #[.float .f64 x] w fun e w' => e = .returned (.bool (Fl.sg x)) ∧ w = w' := by
  have h45 := run_tobits x
  have h1 : decide (wrap64 (x : Int) < 0) = Fl.sg x := by
    unfold Fl.sg wrap64
    by_cases h : x < 9223372036854775808
    · have : x / 9223372036854775808 = 0 := by omega
      rw [this]
      simp; omega
    · have : x / 9223372036854775808 = 1 := by omega
      rw [this]
      simp; omega
  go_enter Tryz.func221, Tryz.ntmps221
  go_wp2_with (simp only [h1])
  go_ret
  exact ⟨rfl, rfl⟩
/-- a number with its sign turned -/
def negOf (x : Nat) : Nat := if x < 9223372036854775808 then 9223372036854775808 + x else x - 9223372036854775808
theorem xor_low (b : Nat) (h : b < 2 ^ 63) : b ^^^ 2 ^ 63 = 2 ^ 63 + b := by
  have e := Nat.two_pow_add_eq_or_of_lt h 1
  rw [Nat.mul_one] at e
  rw [e]
  apply Nat.eq_of_testBit_eq
  intro i
  rw [Nat.testBit_xor, Nat.testBit_or, Nat.testBit_two_pow]
  by_cases hi : 63 = i
  · subst hi
    rw [Nat.testBit_lt_two_pow h]
    rfl
  · simp [hi]
theorem negFloat_eq (x : Nat) (hx : x < 18446744073709551616) : Op.negFloat .f64 x = negOf x := by
  change x ^^^ 2 ^ 63 = _
  unfold negOf
  by_cases h : x < 9223372036854775808
  · rw [if_pos h, xor_low x h]
  · rw [if_neg h]
    have := xor_low (x - 9223372036854775808) (by omega)
    have e : x = (x - 9223372036854775808) ^^^ 2 ^ 63 := by rw [this]; omega
    rw [show x ^^^ 2 ^ 63 = ((x - 9223372036854775808) ^^^ 2 ^ 63) ^^^ 2 ^ 63 by rw [← e], Nat.xor_assoc, Nat.xor_self, Nat.xor_zero]
theorem sg_neg (x : Nat) (hx : x < 18446744073709551616) : Fl.sg (negOf x) = !Fl.sg x := by
  unfold negOf Fl.sg
  split
  · rw [show (9223372036854775808 + x) / 9223372036854775808 = 1 by omega, show x / 9223372036854775808 = 0 by omega]; rfl
  · rw [show (x - 9223372036854775808) / 9223372036854775808 = 0 by omega, show x / 9223372036854775808 = 1 by omega]; rfl
theorem rg_neg (x : Nat) : Fl.rg (negOf x) = Fl.rg x := by
  unfold negOf Fl.rg
  split <;> omega
theorem neg_lt (x : Nat) (hx : x < 18446744073709551616) : negOf x < 18446744073709551616 := by
  unfold negOf
  split <;> omega
theorem bits_made (x : Nat) (hx : x < 18446744073709551616) (hn : ¬ nanB x) : bitsOf (madeOf x) = x := by
  unfold madeOf bitsOf cellOf
  rw [if_neg hn]
  split <;> omega
theorem rg_lt (x : Nat) : Fl.rg x < 9223372036854775808 := Nat.mod_lt _ (by decide)
theorem sg_rg (x : Nat) : Fl.sg (Fl.rg x) = false := by
  have := rg_lt x
  unfold Fl.sg
  rw [show Fl.rg x / 9223372036854775808 = 0 by omega]
  rfl
theorem rg_rg (x : Nat) : Fl.rg (Fl.rg x) = Fl.rg x := by
  have := rg_lt x
  unfold Fl.rg at *
  omega
/-- is it without end? -/
theorem order_big (x : Nat) : (FloatKind.f64.format.order (Fl.rg x) 9218868437227405311 == some .gt) = (Fl.rg x == 9218868437227405312) := by
  change (Ieee.double.order (Fl.rg x) 9218868437227405311 == some .gt) = _
  have hb : Fl.fin 9218868437227405311 := by unfold Fl.fin; decide
  by_cases h1 : Fl.rg x < 9218868437227405312
  · have hf : Fl.fin (Fl.rg x) := by unfold Fl.fin; rw [rg_rg]; exact h1
    rw [Fl.order_fin hf hb]
    have e1 : Fl.Zv (Fl.rg x) = Fl.Nv (Fl.rg x) := by unfold Fl.Zv; rw [sg_rg, rg_rg]; rfl
    have e2 : Fl.Zv 9218868437227405311 = Fl.Nv 9218868437227405311 := by unfold Fl.Zv; rw [show Fl.sg 9218868437227405311 = false by decide, show Fl.rg 9218868437227405311 = 9218868437227405311 by decide]; rfl
    have hle : Fl.Nv (Fl.rg x) ≤ Fl.Nv 9218868437227405311 := by
      by_cases h2 : Fl.rg x = 9218868437227405311
      · rw [h2]; exact Nat.le_refl _
      · exact Nat.le_of_lt (Fl.Nv_lt (by omega))
    rw [e1, e2, beq_eq_false_iff_ne.2 (show Fl.rg x ≠ 9218868437227405312 by omega)]
    rcases Nat.lt_or_ge (Fl.Nv (Fl.rg x)) (Fl.Nv 9218868437227405311) with h | h
    · rw [Int.compare_eq_lt.2 (by exact_mod_cast h)]; rfl
    · rw [show Fl.Nv (Fl.rg x) = Fl.Nv 9218868437227405311 from Nat.le_antisymm hle h, Int.compare_eq_eq.2 rfl]; rfl
  · by_cases h2 : Fl.rg x = 9218868437227405312
    · rw [h2]; decide
    · rw [beq_eq_false_iff_ne.2 h2]
      unfold Ieee.Format.order
      rw [Fl.read_nan (w := Fl.rg x) (by rw [rg_rg]; omega)]
      rfl
set_option maxRecDepth 100000 in
theorem isInf_any (x : Nat) (hx : x < 18446744073709551616) (w : World) : Calls Tryz.prog 222 #[.float .f64 x, .int .i64 0] w fun e w' => e = .returned (.bool (Fl.rg x == 9218868437227405312)) ∧ w = w' := by
  have h1 := order_big x
  go_enter Tryz.func222, Tryz.ntmps222
  go_wp2_with fail
  refine (abs_any x hx _).mono ?_
  rintro _ _ ⟨rfl, rfl⟩
  go_wp2_with fail
  go_ret
  exact ⟨rfl, rfl⟩
set_option maxRecDepth 100000 in
theorem one_abs (a : Int) (w : World) : Calls Tryz.prog 79 #[.int .i64 2, .int .i64 a] w fun e w' => e = .returned (.tuple #[.int .i64 (madeOf (Fl.rg (bitsOf a))), .int .i64 0]) ∧ w = w' := by
  go_enter Tryz.func79, Tryz.ntmps79
  go_wp2_with fail
  refine (number_any a _).mono ?_
  rintro _ _ ⟨rfl, rfl⟩
  go_wp2_with fail
  refine (abs_any _ (bitsOf_lt a) _).mono ?_
  rintro _ _ ⟨rfl, rfl⟩
  go_wp2_with fail
  refine (made_any _ (Nat.lt_trans (rg_lt _) (by decide)) _).mono ?_
  rintro _ _ ⟨rfl, rfl⟩
  go_wp2_with fail
  go_ret2
  exact ⟨rfl, rfl⟩
end Go.Proofs.YtkbchpaofmlhgaaGreatDoor.Rl

/- The contracts of package real: odd, Text, To (collected by mkrealp.py out of XReal3, XReal4, XReal6). -/
namespace Go.Proofs.YtkbchpaofmlhgaaGreatDoor.Rl
open Go.RowKit Go.Sort Go.Lib

theorem fin_nat {r : Nat} (h : r < 9218868437227405312) : Fl.fin r := by unfold Fl.fin Fl.rg; omega
/-- what is rounded down -/
def floW (q : Nat) : Nat := Ieee.double.write ((Ieee.double.read q).integral .down)
theorem floW_spec {q : Nat} (h : q < 9218868437227405312) : floW q < 9218868437227405312 ∧ Fl.Nv (floW q) = Fl.Iv q * Fl.U := by
  obtain ⟨p, hp, hv, he⟩ := Fl.floor_word h
  rw [Fl.word_false, Fl.word_false] at he
  unfold floW
  rw [he]
  exact ⟨hp, hv⟩
theorem Floor_pos (q : Nat) (h : q < 9218868437227405312) (w : World) : Calls Tryz.prog 219 #[.float .f64 q] w fun e w' => e = .returned (.float .f64 (floW q)) ∧ w = w' :=
  floor_any q _ w w (run_floor q (fin_nat h) w)
theorem order_pos {r q : Nat} (hr : r < 9218868437227405312) (hq : q < 9218868437227405312) : FloatKind.f64.format.order r q = some (compare (Fl.Nv r) (Fl.Nv q)) := by
  have := Fl.order_pos hr hq
  rw [Fl.word_false, Fl.word_false] at this
  exact this
theorem is_whole {q : Nat} (h : q < 9218868437227405312) : (FloatKind.f64.format.order q (floW q) != some .eq) = !(Fl.Nv q % Fl.U == 0) := by
  obtain ⟨h1, h2⟩ := floW_spec h
  rw [order_pos h h1, h2]
  have hd := Nat.div_add_mod (Fl.Nv q) Fl.U
  have he : Fl.Iv q * Fl.U = Fl.U * (Fl.Nv q / Fl.U) := by unfold Fl.Iv; exact Nat.mul_comm _ _
  by_cases h0 : Fl.Nv q % Fl.U = 0
  · rw [h0, Nat.add_zero] at hd
    rw [he, hd, Nat.compare_eq_eq.2 rfl, h0]
    rfl
  · rw [beq_eq_false_iff_ne.2 h0, Nat.compare_eq_gt.2 (by rw [he]; omega)]
    rfl
/-- the two steps -/
theorem twice_step {q : Nat} (h : q < 9218868437227405312) (h0 : Fl.Nv q % Fl.U ≠ 0) : ∃ p, p < 9218868437227405312 ∧ Fl.Nv p = 2 * Fl.Nv q ∧ q < p ∧ floatBits .mul .f64 q 4611686018427387904 = some p := by
  have hE := Fl.small_E h0
  rw [Fl.B_eq] at hE
  obtain ⟨p, hp, hv⟩ := Fl.double_rung (r := q) (by omega)
  have hm := Fl.mul_two h hp hv
  rw [Fl.word_false, Fl.word_false] at hm
  refine ⟨p, hp, hv, ?_, hm⟩
  rcases Nat.lt_trichotomy q p with h1 | h1 | h1
  · exact h1
  · subst h1
    have : Fl.Nv q = 0 := by omega
    rw [this, Nat.zero_mod] at h0
    exact absurd rfl h0
  · have := Fl.Nv_lt h1; omega
theorem half_step {q : Nat} (h : q < 9218868437227405312) (h0 : 9223372036854775808 * Fl.U ≤ Fl.Nv q) : ∃ p, p < 9218868437227405312 ∧ Fl.Nv q = 2 * Fl.Nv p ∧ p < q ∧ Fl.Nv p % Fl.U = 0 ∧ floatBits .quo .f64 q 4611686018427387904 = some p := by
  have hE : Fl.B + 10 < Fl.E q := Fl.big_E (by rw [show 53 + (Fl.B + 10) = 63 + Fl.B by omega, Nat.pow_add, ← Fl.U_eq]; exact h0)
  have hU := Fl.U_pos
  obtain ⟨p, hp, hv⟩ := Fl.half_rung h (by omega)
  have hm := Fl.div_two h hp hv
  rw [Fl.word_false, Fl.word_false] at hm
  refine ⟨p, hp, hv, ?_, ?_, hm⟩
  · rcases Nat.lt_trichotomy p q with h1 | h1 | h1
    · exact h1
    · subst h1
      have : Fl.Nv p = 0 := by omega
      omega
    · have := Fl.Nv_lt h1; omega
  · obtain ⟨k, hk⟩ : ∃ k, Fl.E q = (Fl.B + k) + 1 := ⟨Fl.E q - Fl.B - 1, by omega⟩
    have e : Fl.Nv p = Fl.M q * 2 ^ k * Fl.U := by
      have h2 : 2 * Fl.Nv p = 2 * (Fl.M q * 2 ^ k * Fl.U) := by
        rw [← hv, Fl.Nv, hk, Nat.pow_succ, Nat.pow_add, ← Fl.U_eq, Nat.mul_comm Fl.U, ← Nat.mul_assoc, Nat.mul_comm _ 2, Nat.mul_assoc (Fl.M q)]
      omega
    rw [e, Nat.mul_mod_left]
theorem word_63 : (4890909195324358656 : Nat) < 9218868437227405312 ∧ Fl.Nv 4890909195324358656 = 9223372036854775808 * Fl.U := by
  refine ⟨by decide, ?_⟩
  have e1 : Fl.M 4890909195324358656 = 4503599627370496 := by decide
  have e2 : Fl.E 4890909195324358656 = 1085 := by decide
  rw [Fl.Nv, e1, e2, Fl.U_eq, show 1085 = 11 + Fl.B by rw [Fl.B_eq], Nat.pow_add, ← Nat.mul_assoc]
theorem is_big {q : Nat} (h : q < 9218868437227405312) : (FloatKind.f64.format.order q 4890909195324358656 == some .gt || FloatKind.f64.format.order q 4890909195324358656 == some .eq) = decide (9223372036854775808 * Fl.U ≤ Fl.Nv q) := by
  rw [order_pos h word_63.1, word_63.2]
  rcases Nat.lt_trichotomy (Fl.Nv q) (9223372036854775808 * Fl.U) with h1 | h1 | h1
  · rw [Nat.compare_eq_lt.2 h1, decide_eq_false (by omega)]; rfl
  · rw [h1, Nat.compare_eq_eq.2 rfl, decide_eq_true (by omega)]; rfl
  · rw [Nat.compare_eq_gt.2 h1, decide_eq_true (by omega)]; rfl
/-- how far odd has come -/
def OddAt (r q a b : Nat) : Prop := q < 9218868437227405312 ∧ Fl.Nv q * 2 ^ a = Fl.Nv r * 2 ^ b ∧ 0 < q
set_option maxHeartbeats 2000000 in
theorem odd_any (r : Nat) (hr : r < 9218868437227405312) (h0 : 0 < r) (x : Nat) (hx : x < 18446744073709551616) (hrx : Fl.rg x = r) (w : World) (hT : TzTab w) :
    Calls Tryz.prog 223 #[.float .f64 x] w fun e w' => (∃ m t : Nat, m % 2 = 1 ∧ Fl.Nv r = m * 2 ^ t ∧ m < 9223372036854775808 ∧ e = .returned (.tuple #[.int .u64 m, .int .i64 ((t : Int) - 1074)])) ∧ w = w' := by
  have HT := Lib.hid hT
  clear hT
  go_enter Tryz.func223, Tryz.ntmps223
  go_wp2_with fail
  refine (abs_any x hx _).mono ?_
  rintro _ _ ⟨rfl, rfl⟩
  rw [hrx]
  clear hrx hx
  go_wp2_with fail
  go_loop [0, 4] (fun v i => ∃ q b : Nat, v = .float .f64 q ∧ i = .int .i64 (-(b : Int)) ∧ b ≤ 1074 ∧ OddAt r q 0 b) (fun v _ => match v with | .float _ q => 9218868437227405312 - q | _ => 0)
  case atStart => exact ⟨r, 0, rfl, rfl, by omega, hr, rfl, h0⟩
  case round =>
    obtain ⟨q, b, rfl, rfl, hb, hO⟩ := hrel
    have hw := is_whole hO.1
    have hq := hO.1
    by_cases hz : Fl.Nv q % Fl.U = 0
    · rw [hz] at hw
      have hw' : (FloatKind.f64.format.order q (floW q) != some .eq) = false := hw
      clear hw
      go_wp2_with fail
      refine (Floor_pos q hq _).mono ?_
      rintro _ _ ⟨rfl, rfl⟩
      go_wp2_with fail
      go_loop [0, 4] (fun v i => ∃ q a : Nat, v = .float .f64 q ∧ i = .int .i64 ((a : Int) - b) ∧ q + a ≤ 9218868437227405312 ∧ Fl.Nv q % Fl.U = 0 ∧ OddAt r q a b) (fun v _ => match v with | .float _ q => q | _ => 0)
      case atStart => exact ⟨q, 0, rfl, by simp, by omega, hz, hO⟩
      case round =>
        clear hz hO hq hw'
        obtain ⟨q, a, rfl, rfl, ha, hz, hO⟩ := hrel
        have hq := hO.1
        have hw := is_big hq
        by_cases hbig : 9223372036854775808 * Fl.U ≤ Fl.Nv q
        · obtain ⟨p, hp, hv, hqp, hz2, hm⟩ := half_step hq hbig
          have hrun := fun W => run_float_arith (P := Tryz.prog) W .quo 140 .f64 q 4611686018427387904 p hm
          rw [decide_eq_true hbig] at hw
          clear hbig hm hz
          go_wp2_with fail
          refine ⟨⟨p, a + 1, rfl, ?_, by omega, hz2, hp, ?_, ?_⟩, ?_⟩
          · go_num
          · rw [Nat.pow_succ, ← hO.2.1, hv, Nat.mul_comm 2 (Fl.Nv p), Nat.mul_assoc, Nat.mul_comm 2]
          · have h1 := hO.2.2
            rcases Nat.eq_zero_or_pos p with h2 | h2
            · subst h2
              have h3 : Fl.Nv 0 = 0 := by decide
              have h4 := Fl.Nv_lt h1
              omega
            · exact h2
          · exact hqp
        · rw [decide_eq_false hbig] at hw
          obtain ⟨m, hm⟩ : ∃ m, Fl.Iv q = m := ⟨_, rfl⟩
          have hNm : Fl.Nv q = m * Fl.U := by rw [← hm]; exact (Fl.div_back _ _ hz).symm
          have hpos : 0 < Fl.Nv q := by
            have h3 : Fl.Nv 0 = 0 := by decide
            have h4 := Fl.Nv_lt hO.2.2
            omega
          have hm0 : m ≠ 0 := by
            intro h
            rw [hNm, h, Nat.zero_mul] at hpos
            omega
          have hm63 : m < 9223372036854775808 := by
            rw [hNm] at hbig
            exact Nat.lt_of_mul_lt_mul_right (Nat.lt_of_not_le hbig)
          have hconv : floatToIntVal .f64 q .u64 = some (m : Int) := by
            have h1 : (FloatKind.f64.decode q).toInt .zero = some (m : Int) := by
              have h2 := Fl.toInt_fin (fin_nat hq)
              have e1 : Fl.sg q = false := by unfold Fl.sg; rw [show q / 9223372036854775808 = 0 by omega]; rfl
              have e2 : Fl.rg q = q := by unfold Fl.rg; omega
              rw [e1, e2, hm] at h2
              exact h2
            unfold floatToIntVal
            rw [h1]
            have e3 : IntKind.min .u64 = 0 := by decide
            have e4 : IntKind.max .u64 = 18446744073709551615 := by decide
            dsimp only
            rw [e3, e4, if_pos (by omega)]
          have hc := fun W => run_convert_float_int (P := Tryz.prog) W 140 104 .f64 .u64 q (m : Int) (by kernel_rfl) (by kernel_rfl) hconv
          obtain ⟨n, hn, hk⟩ := Lib.ctzFrom_spec 64 m (by omega) (by omega)
          have hctz : Lib.ctz 64 m = Lib.ctzFrom 64 m := by unfold Lib.ctz; rw [if_neg hm0]
          obtain ⟨k, hke⟩ : ∃ k, Lib.ctzFrom 64 m = k := ⟨_, rfl⟩
          rw [hke] at hn hk hctz
          have HN := Lib.hid hn
          have HM := Lib.hid hNm
          clear hconv hke hbig hpos hn hm hNm
          go_wp2_with fail
          refine (tz_any m (by omega) hm0 _ HT.out).mono ?_
          rintro _ _ ⟨rfl, rfl⟩
          rw [hctz]
          go_wp2_with fail
          have hn := HN.out
          have hNm := HM.out
          have h2 := hO.2.1
          go_ret2
          have hd : m / 2 ^ k = 2 * n + 1 := by rw [hn]; exact Nat.mul_div_cancel_left _ (Nat.two_pow_pos k)
          refine ⟨⟨2 * n + 1, k + 1074 + a - b, by omega, ?_, ?_, ret2 (vint ?_) (vint (by omega))⟩, rfl⟩
          · obtain ⟨t, ht⟩ : ∃ t, k + 1074 + a - b = t := ⟨_, rfl⟩
            have ht2 : k + Fl.B + a = t + b := by rw [Fl.B_eq]; omega
            rw [ht]
            refine Nat.eq_of_mul_eq_mul_right (Nat.two_pow_pos b) ?_
            rw [← h2, hNm, hn, Fl.U_eq, Nat.mul_assoc, ← Nat.pow_add, Nat.mul_assoc (2 * n + 1), ← Nat.pow_add, ← ht2, Nat.mul_comm (2 ^ k), Nat.mul_assoc, ← Nat.pow_add, Nat.add_assoc]
          · rw [← hd]
            exact Nat.lt_of_le_of_lt (Nat.div_le_self _ _) hm63
          · rw [← hd]
            exact (Int.natCast_ediv m (2 ^ k)).symm
    · have hlt : b < 1074 := by
        rcases Nat.lt_or_ge b 1074 with h | h
        · exact h
        · exfalso
          apply hz
          have h2 := hO.2.1
          rw [Nat.pow_zero, Nat.mul_one, show b = Fl.B by rw [Fl.B_eq]; omega, ← Fl.U_eq] at h2
          rw [h2, Nat.mul_mod_left]
      obtain ⟨p, hp, hv, hqp, hm⟩ := twice_step hq hz
      have hrun := fun W => run_float_arith (P := Tryz.prog) W .mul 140 .f64 q 4611686018427387904 p hm
      rw [beq_eq_false_iff_ne.2 hz] at hw
      have hw' : (FloatKind.f64.format.order q (floW q) != some .eq) = true := hw
      clear hw hz hm
      go_wp2_with fail
      refine (Floor_pos q hq _).mono ?_
      rintro _ _ ⟨rfl, rfl⟩
      go_wp2_with fail
      refine ⟨⟨p, b + 1, rfl, ?_, by omega, hp, ?_, by omega⟩, ?_⟩
      · go_num
      · have h2 := hO.2.1
        rw [Nat.pow_zero, Nat.mul_one] at h2 ⊢
        rw [hv, h2, Nat.pow_succ, Nat.mul_comm 2, Nat.mul_assoc]
      · show 9218868437227405312 - p < 9218868437227405312 - q
        omega
theorem holds_zeroA (w : World) (T : TypeId) (nd : Nat) (hs : nd ≤ 24) : Holds (fun (b : UInt8) => Value.int .u8 (b.toNat : Int)) (w.alloc (.cells Lib.zeros24 T)) w.heap.size 0 (Array.replicate nd (0 : UInt8)) := fun j hj => by
  have hj' : j < nd := by simpa using hj
  refine ⟨?_, World.frozen?_alloc_new _ _ _ _⟩
  rw [World.cell?_alloc_new, zeros24_at _ (by omega), getElem!_pos _ j hj]
  simp
theorem fin_zero (w : World) (o : Obj) (dk : Array UInt8) (k : Nat) : ∃ os, (putRow (fun (b : UInt8) => Value.int .u8 (b.toNat : Int)) (w.alloc o) w.heap.size 0 dk).drewN k = grow (w.drewN k) os := by
  rw [alloc_eq_grow]
  obtain ⟨os', _, e⟩ := putRow_grow_new (fun (b : UInt8) => Value.int .u8 (b.toNat : Int)) w #[o] w.heap.size 0 dk (Nat.le_refl _)
  exact ⟨os', by rw [e]; rfl⟩
/-- the table of powers of ten -/
def PowTab (w : World) : Prop := Lib.TabIs Tryz.prog w "internal/strconv.uint64pow10" .u64 Lib.pow10Tab
set_option maxHeartbeats 6400000 in
set_option maxRecDepth 100000 in
theorem formatUint_in (u : Nat) (hu64 : u < 18446744073709551616) (w : World) (htab : PowTab w) :
    Calls Tryz.prog 243 #[.int .u64 u, .int .i64 10] w fun e w' => e = .returned (.string ⟨(Lib.decDigits u).toArray⟩) ∧ ∃ k os, w' = grow (w.drewN k) os := by
  by_cases hs : u < 100
  · go_enter Tryz.func243, Tryz.ntmps243
    go_wp2_with fail
    refine (Tryz.internal_strconv_small u hs _).mono ?_
    rintro _ _ ⟨rfl, rfl⟩
    go_wp2_with fail
    go_ret
    exact ⟨rfl, 0, #[], by simp [World.drewN_zero]⟩
  · have hu1 : 1 ≤ u := by omega
    have hnd20 : Lib.nDigits u ≤ 20 := by have := Lib.numDigits_eq u hu1 hu64; split at this <;> omega
    have hal : Tryz.prog.arrayLen 204 = 24 := by kernel_rfl
    have hsl1 : ∀ W, (Instr.sliceAt 204 (.pointer (some ⟨w.heap.size, 0, none⟩)) none (some (.int .i64 (Lib.nDigits u : Int))) none).run Tryz.prog W = .ok (.slice (some ⟨w.heap.size, 0, none⟩) (Lib.nDigits u) 24) W := fun W => by
      rw [run_sliceAt_array_h W 204 ⟨w.heap.size, 0, none⟩ (by kernel_rfl) .i64 (Lib.nDigits u : Int) (by omega) (by rw [hal]; omega)]
      go_simp
    have hH0 := holds_zeroA w 204 (Lib.nDigits u) (by omega)
    have hfmt := Tryz.internal_strconv_formatBase10 w.heap.size 0 24 u (Array.replicate (Lib.nDigits u) 0) (w.alloc (.cells Lib.zeros24 204)) hH0 (by rw [Array.size_replicate]; exact Lib.lt_pow_nDigits u) hu64 (by rw [Array.size_replicate]; omega)
    rw [Array.size_replicate] at hfmt
    have HH0 := Lib.hid hH0
    clear hH0 hal
    go_enter Tryz.func243, Tryz.ntmps243
    go_wp2_with fail
    refine (Tryz.internal_strconv_numDigits u hu1 hu64 _ (Lib.tabIs_alloc htab _)).mono ?_
    rintro _ _ ⟨rfl, rfl⟩
    go_wp2_with fail
    refine hfmt.mono ?_
    rintro e w' ⟨rfl, k, v', dk, rfl, hF⟩
    have hcv : (convert 66 9 (.slice (some ⟨w.heap.size, 0, none⟩) (Lib.nDigits u) 24)).run Tryz.prog ((putRow (fun (b : UInt8) => Value.int .u8 (b.toNat : Int)) (w.alloc (.cells Lib.zeros24 204)) w.heap.size 0 dk).drewN k) = .ok (.string ⟨(Lib.decDigits u).toArray⟩) ((putRow (fun (b : UInt8) => Value.int .u8 (b.toNat : Int)) (w.alloc (.cells Lib.zeros24 204)) w.heap.size 0 dk).drewN k) := by
      have h := run_convert_bytes_back (P := Tryz.prog) ((putRow (fun (b : UInt8) => Value.int .u8 (b.toNat : Int)) (w.alloc (.cells Lib.zeros24 204)) w.heap.size 0 dk).drewN k) 66 9 5 ⟨w.heap.size, 0, none⟩ 24 (Lib.decDigits u) (by kernel_rfl) (by kernel_rfl) (by kernel_rfl) (fun j hj => by
        rw [Lib.row_is_numeral hF j hj, Lib.add_plain, World.cell?_drewN]
        exact cell?_putRow (fun (b : UInt8) => Value.int .u8 (b.toNat : Int)) _ w.heap.size 0 _ dk HH0.out (by rw [hF.size, Array.size_replicate]) j (by rw [hF.size]; rw [Lib.decDigits_length] at hj; exact hj))
      rw [Lib.decDigits_length] at h
      exact h
    go_wp2
    go_ret
    obtain ⟨os, eo⟩ := fin_zero w (.cells Lib.zeros24 204) dk k
    exact ⟨rfl, k, os, eo⟩
theorem tab_touch {name : String} {k : IntKind} {zs : List Int} {w w' : World} (h : Lib.TabIs Tryz.prog w name k zs) (ht : Touch [] w w') : Lib.TabIs Tryz.prog w' name k zs := by
  unfold Lib.TabIs World.var? at *
  cases hg : Tryz.prog.globalNamed name with
  | none => simp [hg] at h
  | some g =>
    simp only [hg, Option.bind_some] at h ⊢
    have hlt : g < w.heap.size := by
      rcases Nat.lt_or_ge g w.heap.size with h' | h'
      · exact h'
      · rw [Array.getElem?_eq_none h'] at h; simp at h
    rw [ht.block g hlt (by simp)]
    exact h
theorem touch_grow (w : World) (k : Nat) (os : Array Obj) : Touch [] w (grow (w.drewN k) os) := Touch.of_below (Go.Lib.below_grow _ w (Nat.le_refl _) k os) _
theorem formatUint_any (u : Nat) (hu64 : u < 18446744073709551616) (w : World) (htab : PowTab w) :
    Calls Tryz.prog 224 #[.int .u64 u, .int .i64 10] w fun e w' => e = .returned (.string ⟨(Lib.decDigits u).toArray⟩) ∧ Touch [] w w' := by
  go_enter Tryz.func224, Tryz.ntmps224
  go_wp2_with fail
  refine (formatUint_in u hu64 _ htab).mono ?_
  rintro _ w1 ⟨rfl, k, os, rfl⟩
  go_wp2_with fail
  go_ret
  exact ⟨rfl, touch_grow _ _ _⟩
theorem t_bound {r m t : Nat} (hr : r < 9218868437227405312) (hm : m % 2 = 1) (h : Fl.Nv r = m * 2 ^ t) : t < 4000 := by
  have hm0 : m ≠ 0 := by omega
  have hE := Fl.E_le hr
  rcases Fl.log_M r with h0 | h0
  · rw [Fl.Nv, h0, Nat.zero_mul] at h
    rcases Nat.mul_eq_zero.1 h.symm with h1 | h1
    · exact absurd h1 hm0
    · exact absurd h1 (Nat.ne_of_gt (Nat.two_pow_pos _))
  · have hM : Fl.M r ≠ 0 := by
      intro h1
      rw [Fl.Nv, h1, Nat.zero_mul] at h
      rcases Nat.mul_eq_zero.1 h.symm with h1 | h1
      · exact absurd h1 hm0
      · exact absurd h1 (Nat.ne_of_gt (Nat.two_pow_pos _))
    have e1 := Fl.log2_mul_pow (Fl.M r) (Fl.E r) hM
    have e2 := Fl.log2_mul_pow m t hm0
    rw [← h] at e2
    rw [show Fl.M r * 2 ^ Fl.E r = Fl.Nv r from rfl] at e1
    omega
theorem dec_size (m : Nat) (h : m < 18446744073709551616) : (⟨(Lib.decDigits m).toArray⟩ : ByteArray).size ≤ 20 := by
  show (Lib.decDigits m).toArray.size ≤ 20
  rw [List.size_toArray, Lib.decDigits_length]
  rcases Nat.eq_zero_or_pos m with h0 | h0
  · subst h0; decide +kernel
  · have := Lib.numDigits_eq m h0 h
    split at this <;> omega
theorem itoa_size (n : Int) (h0 : -5000 ≤ n) (h1 : n ≤ 5000) : (⟨(Lib.itoa n).toArray⟩ : ByteArray).size ≤ 21 := by
  show (Lib.itoa n).toArray.size ≤ 21
  rw [List.size_toArray]
  rcases Int.lt_or_le n 0 with h | h
  · obtain ⟨u, rfl⟩ : ∃ u : Nat, n = -(u : Int) := ⟨n.natAbs, by omega⟩
    have := dec_size u (by omega)
    rw [Lib.itoa_neg u (by omega), List.length_cons]
    have e : (⟨(Lib.decDigits u).toArray⟩ : ByteArray).size = (Lib.decDigits u).length := by show (Lib.decDigits u).toArray.size = _; rw [List.size_toArray]
    omega
  · obtain ⟨u, rfl⟩ : ∃ u : Nat, n = (u : Int) := ⟨n.toNat, by omega⟩
    have := dec_size u (by omega)
    rw [Lib.itoa_nonneg]
    have e : (⟨(Lib.decDigits u).toArray⟩ : ByteArray).size = (Lib.decDigits u).length := by show (Lib.decDigits u).toArray.size = _; rw [List.size_toArray]
    omega
def sgnS (x : Nat) : ByteArray := if Fl.sg x then ⟨#[45]⟩ else ⟨#[]⟩
/-- the text of a number -/
def TextIs (x : Nat) (s : ByteArray) : Prop :=
  (nanB x ∧ s = ⟨#[110, 97, 110]⟩) ∨ (Fl.rg x = 9218868437227405312 ∧ s = sgnS x ++ ⟨#[105, 110, 102]⟩) ∨ (Fl.rg x = 0 ∧ s = sgnS x ++ ⟨#[48]⟩ ++ ⟨#[112]⟩ ++ ⟨#[48]⟩) ∨
  (Fl.rg x < 9218868437227405312 ∧ ∃ m t : Nat, m % 2 = 1 ∧ Fl.Nv (Fl.rg x) = m * 2 ^ t ∧ m < 9223372036854775808 ∧ t < 4000 ∧ s = sgnS x ++ ⟨(Lib.decDigits m).toArray⟩ ++ ⟨#[112]⟩ ++ ⟨(Lib.itoa ((t : Int) - 1074)).toArray⟩)
theorem order_nil {x : Nat} (h : Fl.rg x < 9218868437227405312) : (FloatKind.f64.format.order x 0 == some .eq) = (Fl.rg x == 0) := by
  have h0 : Fl.fin 0 := fin_nat (by omega)
  have ho : FloatKind.f64.format.order x 0 = _ := Fl.order_fin (x := x) (y := 0) h h0
  rw [ho, show Fl.Zv 0 = 0 by decide]
  by_cases hz : Fl.rg x = 0
  · have : Fl.Zv x = 0 := by unfold Fl.Zv; rw [hz, show Fl.Nv 0 = 0 by decide]; split <;> rfl
    rw [this, hz, Int.compare_eq_eq.2 rfl]; rfl
  · have hp : 0 < Fl.Nv (Fl.rg x) := by
      have := Fl.Nv_lt (r := 0) (r' := Fl.rg x) (by omega); omega
    have hne : Fl.Zv x ≠ 0 := by unfold Fl.Zv; split <;> omega
    rw [beq_eq_false_iff_ne.2 hz]
    rcases Int.lt_trichotomy (Fl.Zv x) 0 with h1 | h1 | h1
    · rw [Int.compare_eq_lt.2 h1]; rfl
    · exact absurd h1 hne
    · rw [Int.compare_eq_gt.2 h1]; rfl
set_option maxHeartbeats 6400000 in
set_option maxRecDepth 100000 in
theorem Text_any (a : Int) (w : World) (hT : TzTab w) (hP : PowTab w) :
    Calls Tryz.prog 169 #[.int .i64 a] w fun e w' => ∃ s, TextIs (bitsOf a) s ∧ e = .returned (.string s) ∧ Touch [] w w' := by
  obtain ⟨x, hx⟩ : ∃ x, bitsOf a = x := ⟨_, rfl⟩
  have hlt : x < 18446744073709551616 := by rw [← hx]; exact bitsOf_lt a
  have hN := number_any a
  rw [hx] at hN ⊢
  clear hx
  have hsx : sgnS x = if Fl.sg x then ⟨#[45]⟩ else ⟨#[]⟩ := rfl
  have ho := order_self x
  have HT := Lib.hid hT
  have HP := Lib.hid hP
  have HX := Lib.hid hlt
  clear hT hP hlt
  have hor : FloatKind.f64.format.order x x = Ieee.double.order x x := rfl
  obtain ⟨sx, hse⟩ : ∃ sx, sgnS x = sx := ⟨_, rfl⟩
  by_cases hnan : nanB x
  · rw [if_pos hnan] at ho
    rw [ho] at hor
    have hw : (FloatKind.f64.format.order x x != some .eq) = true := by rw [hor]; rfl
    have HR : Hid (TextIs x ⟨#[110, 97, 110]⟩) := .inl ⟨hnan, rfl⟩
    clear ho hor hnan hsx hse
    rcases hs : Fl.sg x with _ | _
    all_goals
      go_enter Tryz.func169, Tryz.ntmps169
      go_wp2_with fail
      refine (hN _).mono ?_
      rintro _ _ ⟨rfl, rfl⟩
      go_wp2_with fail
      refine (signbit_any x HX.out _).mono ?_
      rintro _ _ ⟨rfl, rfl⟩
      go_wp2_with fail
      go_ret
      exact ⟨_, HR.out, rfl, Touch.refl _ _⟩
  · rw [if_neg hnan] at ho
    rw [ho] at hor
    have hw : (FloatKind.f64.format.order x x != some .eq) = false := by rw [hor]; rfl
    have hn2 : Fl.rg x ≤ 9218868437227405312 := by unfold nanB at hnan; omega
    clear ho hor hnan
    by_cases hinf : Fl.rg x = 9218868437227405312
    · have HR : Hid (TextIs x (sx ++ ⟨#[105, 110, 102]⟩)) := .inr (.inl ⟨hinf, by rw [hse]⟩)
      have hi : (Fl.rg x == 9218868437227405312) = true := by rw [hinf]; rfl
      clear hinf hn2
      rcases hs : Fl.sg x with _ | _
      all_goals
        rw [hs] at hsx
        rw [hse] at hsx
        have hsx' : sx = _ := hsx
        subst hsx'
        clear hse
        go_enter Tryz.func169, Tryz.ntmps169
        go_wp2_with fail
        refine (hN _).mono ?_
        rintro _ _ ⟨rfl, rfl⟩
        go_wp2_with fail
        refine (signbit_any x HX.out _).mono ?_
        rintro _ _ ⟨rfl, rfl⟩
        go_wp2_with fail
        refine (isInf_any x HX.out _).mono ?_
        rintro _ _ ⟨rfl, rfl⟩
        go_wp2_with fail
        go_ret
        exact ⟨_, HR.out, rfl, Touch.refl _ _⟩
    · have hi : (Fl.rg x == 9218868437227405312) = false := beq_eq_false_iff_ne.2 hinf
      have hfin : Fl.rg x < 9218868437227405312 := by omega
      have hz := order_nil hfin
      have HF := Lib.hid hfin
      clear hinf hn2
      by_cases hzero : Fl.rg x = 0
      · have HR : Hid (TextIs x (sx ++ ⟨#[48]⟩ ++ ⟨#[112]⟩ ++ ⟨#[48]⟩)) := .inr (.inr (.inl ⟨hzero, by rw [hse]⟩))
        rw [hzero] at hz
        have hz' : (FloatKind.f64.format.order x 0 == some .eq) = true := hz
        clear hfin hzero hz
        rcases hs : Fl.sg x with _ | _
        all_goals
          rw [hs] at hsx
          rw [hse] at hsx
          have hsx' : sx = _ := hsx
          subst hsx'
          clear hse
          go_enter Tryz.func169, Tryz.ntmps169
          go_wp2_with fail
          refine (hN _).mono ?_
          rintro _ _ ⟨rfl, rfl⟩
          go_wp2_with fail
          refine (signbit_any x HX.out _).mono ?_
          rintro _ _ ⟨rfl, rfl⟩
          go_wp2_with fail
          refine (isInf_any x HX.out _).mono ?_
          rintro _ _ ⟨rfl, rfl⟩
          go_wp2_with fail
          go_ret
          exact ⟨_, HR.out, rfl, Touch.refl _ _⟩
      · rw [beq_eq_false_iff_ne.2 hzero] at hz
        have HR : Hid (∀ m t : Nat, m % 2 = 1 → Fl.Nv (Fl.rg x) = m * 2 ^ t → m < 9223372036854775808 → t < 4000 → TextIs x (sx ++ ⟨(Lib.decDigits m).toArray⟩ ++ ⟨#[112]⟩ ++ ⟨(Lib.itoa ((t : Int) - 1074)).toArray⟩)) :=
          fun m t h1 h2 h3 h4 => .inr (.inr (.inr ⟨hfin, m, t, h1, h2, h3, h4, by rw [hse]⟩))
        have HO : Hid (0 < Fl.rg x) := Nat.pos_of_ne_zero hzero
        clear hfin hzero
        rcases hs : Fl.sg x with _ | _
        all_goals
          rw [hs] at hsx
          rw [hse] at hsx
          have hsx' : sx = _ := hsx
          subst hsx'
          clear hse
          go_enter Tryz.func169, Tryz.ntmps169
          go_wp2_with fail
          refine (hN _).mono ?_
          rintro _ _ ⟨rfl, rfl⟩
          go_wp2_with fail
          refine (signbit_any x HX.out _).mono ?_
          rintro _ _ ⟨rfl, rfl⟩
          go_wp2_with fail
          refine (isInf_any x HX.out _).mono ?_
          rintro _ _ ⟨rfl, rfl⟩
          go_wp2_with fail
          refine (odd_any (Fl.rg x) HF.out HO.out x HX.out rfl _ HT.out).mono ?_
          rintro _ _ ⟨⟨m, t, h1, h2, h3, rfl⟩, rfl⟩
          have h4 := t_bound HF.out h1 h2
          have HR2 := HR.out m t h1 h2 h3 h4
          have HU := fun W => formatUint_any m (by omega) W
          have HI := fun W => Tryz.strconv_Itoa ((t : Int) - 1074) (by omega) (by omega) W
          have hz1 := dec_size m (by omega)
          have hz2 := itoa_size ((t : Int) - 1074) (by omega) (by omega)
          obtain ⟨sm, hsm⟩ : ∃ sm : ByteArray, ⟨(Lib.decDigits m).toArray⟩ = sm := ⟨_, rfl⟩
          obtain ⟨st, hst⟩ : ∃ st : ByteArray, ⟨(Lib.itoa ((t : Int) - 1074)).toArray⟩ = st := ⟨_, rfl⟩
          simp only [hsm, hst] at HR2 hz1 hz2 HU HI
          have HR3 := Lib.hid HR2
          clear h1 h2 HR HR2 hsm hst
          go_wp2_with fail
          refine (HU _ HP.out).mono ?_
          rintro _ w1 ⟨rfl, ht1⟩
          go_wp2_with fail
          refine (HI _ (tab_touch HP.out ht1)).mono ?_
          rintro _ _ ⟨rfl, k, os, rfl⟩
          have ht2 := ht1.trans (touch_grow w1 k os) (by simp)
          obtain ⟨w2, hw2⟩ : ∃ w2, grow (w1.drewN k) os = w2 := ⟨_, rfl⟩
          rw [hw2] at ht2 ⊢
          go_wp2_with fail
          go_ret
          exact ⟨_, HR3.out, rfl, ht2⟩
theorem beyond_num : Fl.Zv 4890909195324358656 = 9223372036854775808 * (Fl.U : Int) ∧ Fl.fin 4890909195324358656 := by
  have h := word_63
  refine ⟨?_, fin_nat h.1⟩
  unfold Fl.Zv
  rw [show Fl.sg 4890909195324358656 = false by decide, show Fl.rg 4890909195324358656 = 4890909195324358656 by decide, h.2]
  simp
theorem below_num : Fl.Zv 14114281232179134464 = -9223372036854775808 * (Fl.U : Int) ∧ Fl.fin 14114281232179134464 := by
  have h := word_63
  have e : Fl.rg 14114281232179134464 = 4890909195324358656 := by decide
  refine ⟨?_, by unfold Fl.fin; rw [e]; exact h.1⟩
  unfold Fl.Zv
  rw [show Fl.sg 14114281232179134464 = true by decide, e, h.2]
  simp [Int.neg_mul]
theorem ge_beyond {y : Nat} (hy : Fl.fin y) {v : Int} (h : Fl.Zv y = v * (Fl.U : Int)) : (FloatKind.f64.format.order y 14114281232179134464 == some .gt || FloatKind.f64.format.order y 14114281232179134464 == some .eq) = decide (-9223372036854775808 ≤ v) := by
  have ho : FloatKind.f64.format.order y 14114281232179134464 = _ := Fl.order_fin hy below_num.2
  rw [ho, h, below_num.1, Fl.compare_mul _ _ _ (by exact_mod_cast Fl.U_pos)]
  rcases Int.lt_trichotomy v (-9223372036854775808) with h1 | h1 | h1
  · rw [Int.compare_eq_lt.2 h1, decide_eq_false (by omega)]; rfl
  · rw [h1, Int.compare_eq_eq.2 rfl]; rfl
  · rw [Int.compare_eq_gt.2 h1, decide_eq_true (by omega)]; rfl
theorem lt_beyond {y : Nat} (hy : Fl.fin y) {v : Int} (h : Fl.Zv y = v * (Fl.U : Int)) : (FloatKind.f64.format.order y 4890909195324358656 == some .lt) = decide (v < 9223372036854775808) := by
  have ho : FloatKind.f64.format.order y 4890909195324358656 = _ := Fl.order_fin hy beyond_num.2
  rw [ho, h, beyond_num.1, Fl.compare_mul _ _ _ (by exact_mod_cast Fl.U_pos)]
  rcases Int.lt_trichotomy v 9223372036854775808 with h1 | h1 | h1
  · rw [Int.compare_eq_lt.2 h1, decide_eq_true h1]; rfl
  · rw [h1, Int.compare_eq_eq.2 rfl]; rfl
  · rw [Int.compare_eq_gt.2 h1, decide_eq_false (by omega)]; rfl
theorem unit_abs {y : Nat} {v : Int} (h : Fl.Zv y = v * (Fl.U : Int)) : Fl.Iv (Fl.rg y) = v.natAbs := by
  have h1 := Fl.natAbs_Zv y
  rw [h, Int.natAbs_mul, Int.natAbs_natCast] at h1
  unfold Fl.Iv
  rw [← h1, Nat.mul_div_cancel _ Fl.U_pos]
theorem conv_whole {y : Nat} (hy : Fl.fin y) {v : Int} (h : Fl.Zv y = v * (Fl.U : Int)) (h0 : -9223372036854775808 ≤ v) (h1 : v < 9223372036854775808) : floatToIntVal .f64 y .i64 = some v := by
  have hI := unit_abs h
  have hsg : (if Fl.sg y then -(Fl.Iv (Fl.rg y) : Int) else (Fl.Iv (Fl.rg y) : Int)) = v := by
    rw [hI]
    have hp : (0 : Int) < (Fl.U : Int) := by exact_mod_cast Fl.U_pos
    unfold Fl.Zv at h
    cases hs : Fl.sg y
    · rw [hs, if_neg (by simp)] at h
      have hv : 0 ≤ v := by
        rcases Int.lt_or_le v 0 with h2 | h2
        · have := Int.mul_neg_of_neg_of_pos h2 hp; omega
        · exact h2
      rw [if_neg (by simp)]; omega
    · rw [hs, if_pos rfl] at h
      have hv : v ≤ 0 := by
        rcases Int.lt_or_le 0 v with h2 | h2
        · have := Int.mul_pos h2 hp; omega
        · exact h2
      rw [if_pos rfl]; omega
  have h2 : (FloatKind.f64.decode y).toInt .zero = some v := by
    have h3 := Fl.toInt_fin hy
    rw [hsg] at h3
    exact h3
  unfold floatToIntVal
  rw [h2]
  have e3 : IntKind.min .i64 = -9223372036854775808 := by decide
  have e4 : IntKind.max .i64 = 9223372036854775807 := by decide
  dsimp only
  rw [e3, e4, if_pos (by omega)]
theorem neg_run {P : Program} (W : World) (x : Nat) : (Op.unary .neg (.float .f64 x)).run P W = .ok (.float .f64 (Op.negFloat .f64 x)) W := rfl
/-- what To tells of a finite number: it is cut towards 0; out of range: an error -/
def cutOf (x : Nat) : Int := if Fl.sg x then -(Fl.Iv (Fl.rg x) : Int) else (Fl.Iv (Fl.rg x) : Int)
def toOf (v : Int) : Value := if -9223372036854775808 ≤ v ∧ v < 9223372036854775808 then .tuple #[.int .i64 v, .int .i64 0] else .tuple #[.int .i64 0, .int .i64 (-43)]
set_option maxHeartbeats 6400000 in
set_option maxRecDepth 100000 in
theorem to_fin (a : Int) (hf : Fl.fin (bitsOf a)) (w : World) : Calls Tryz.prog 138 #[.int .i64 a] w fun e w' => e = .returned (toOf (cutOf (bitsOf a))) ∧ w = w' := by
  obtain ⟨x, hx⟩ : ∃ x, bitsOf a = x := ⟨_, rfl⟩
  have hlt : x < 18446744073709551616 := by rw [← hx]; exact bitsOf_lt a
  have hN := number_any a
  rw [hx] at hN hf ⊢
  clear hx
  have hr : Fl.rg x < 9218868437227405312 := hf
  -- what is rounded, and its sign
  obtain ⟨hq, hv⟩ := floW_spec hr
  obtain ⟨q, hqe⟩ : ∃ q, floW (Fl.rg x) = q := ⟨_, rfl⟩
  have hFl := fun W => Floor_pos (Fl.rg x) hr W
  rw [hqe] at hq hv hFl
  have h0 : Fl.fin 0 := fin_nat (by omega)
  have ho : FloatKind.f64.format.order x 0 = _ := Fl.order_fin (x := x) (y := 0) hf h0
  rw [show Fl.Zv 0 = 0 by decide] at ho
  by_cases hneg : Fl.Zv x < 0
  · -- below 0
    rw [Int.compare_eq_lt.2 hneg] at ho
    have hl : (FloatKind.f64.format.order x 0 == some .lt) = true := by rw [ho]; rfl
    have hs : Fl.sg x = true := by
      cases h : Fl.sg x
      · unfold Fl.Zv at hneg; rw [h, if_neg (by simp)] at hneg; omega
      · rfl
    have hxb : 9223372036854775808 ≤ x := by
      unfold Fl.sg at hs
      rcases Nat.lt_or_ge x 9223372036854775808 with h | h
      · rw [show x / 9223372036854775808 = 0 by omega] at hs; cases hs
      · exact h
    have en : Op.negFloat .f64 x = Fl.rg x := by rw [negFloat_eq x hlt]; unfold negOf Fl.rg; rw [if_neg (by omega)]; omega
    have hen := fun W => neg_run (P := Tryz.prog) W x
    rw [en] at hen
    have en2 : Op.negFloat .f64 q = 9223372036854775808 + q := by rw [negFloat_eq q (by omega)]; unfold negOf; rw [if_pos (by omega)]
    obtain ⟨y, hy⟩ : ∃ y, 9223372036854775808 + q = y := ⟨_, rfl⟩
    have hyr : Fl.rg y = q := by unfold Fl.rg; omega
    have hyf : Fl.fin y := by unfold Fl.fin; omega
    have hys : Fl.sg y = true := by unfold Fl.sg; rw [show y / 9223372036854775808 = 1 by omega]; rfl
    have hz : Fl.Zv y = cutOf x * (Fl.U : Int) := by
      unfold Fl.Zv cutOf; rw [hyr, hys, hs, if_pos rfl, if_pos rfl, hv, Int.natCast_mul, Int.neg_mul]
    have hge := ge_beyond hyf hz
    have hltb := lt_beyond hyf hz
    have hcv := conv_whole hyf hz
    rw [hy] at en2
    have hen2 := fun W => neg_run (P := Tryz.prog) W q
    rw [en2] at hen2
    obtain ⟨v, hve⟩ : ∃ v, cutOf x = v := ⟨_, rfl⟩
    rw [hve] at hge hltb hcv ⊢
    have hv0 : v ≤ 0 := by rw [← hve]; unfold cutOf; rw [hs, if_pos rfl]; omega
    rw [decide_eq_true (show v < 9223372036854775808 by omega)] at hltb
    clear ho hneg hs hxb hy hyr hyf hys hz hve hqe hv h0 hf
    by_cases hin : -9223372036854775808 ≤ v
    · have hT : toOf v = .tuple #[.int .i64 v, .int .i64 0] := by unfold toOf; rw [if_pos (by omega)]
      have hc := fun W => run_convert_float_int (P := Tryz.prog) W 140 36 .f64 .i64 y v (by kernel_rfl) (by kernel_rfl) (hcv hin (by omega))
      rw [decide_eq_true hin] at hge
      rw [hT]
      clear hT hcv
      go_enter Tryz.func138, Tryz.ntmps138
      go_wp2_with fail
      refine (hN _).mono ?_
      rintro _ _ ⟨rfl, rfl⟩
      go_wp2_with fail
      refine (hFl _).mono ?_
      rintro _ _ ⟨rfl, rfl⟩
      go_wp2_with fail
      go_ret2
      exact ⟨rfl, rfl⟩
    · have hT : toOf v = .tuple #[.int .i64 0, .int .i64 (-43)] := by unfold toOf; rw [if_neg (by omega)]
      rw [decide_eq_false hin] at hge
      rw [hT]
      clear hT hcv
      go_enter Tryz.func138, Tryz.ntmps138
      go_wp2_with fail
      refine (hN _).mono ?_
      rintro _ _ ⟨rfl, rfl⟩
      go_wp2_with fail
      refine (hFl _).mono ?_
      rintro _ _ ⟨rfl, rfl⟩
      go_wp2_with fail
      go_ret2
      exact ⟨rfl, rfl⟩
  · -- not below 0
    have hl : (FloatKind.f64.format.order x 0 == some .lt) = false := by
      rw [ho]
      rcases Int.lt_trichotomy (Fl.Zv x) 0 with h | h | h
      · exact absurd h hneg
      · rw [h, Int.compare_eq_eq.2 rfl]; rfl
      · rw [Int.compare_eq_gt.2 h]; rfl
    obtain ⟨y, hyf, hz, hFloor⟩ : ∃ y, Fl.fin y ∧ Fl.Zv y = cutOf x * (Fl.U : Int) ∧ ∀ W, Calls Tryz.prog 219 #[.float .f64 x] W fun e w' => e = .returned (.float .f64 y) ∧ W = w' := by
      cases hs : Fl.sg x
      · have hxr : Fl.rg x = x := by
          unfold Fl.sg at hs
          unfold Fl.rg
          rcases Nat.lt_or_ge x 9223372036854775808 with h | h
          · omega
          · rw [show x / 9223372036854775808 = 1 by omega] at hs; cases hs
        refine ⟨q, fin_nat hq, ?_, ?_⟩
        · have e1 : Fl.sg q = false := by unfold Fl.sg; rw [show q / 9223372036854775808 = 0 by omega]; rfl
          have e2 : Fl.rg q = q := by unfold Fl.rg; omega
          unfold Fl.Zv cutOf
          rw [hs, e1, e2, hv, if_neg (by simp), if_neg (by simp), Int.natCast_mul]
        · rw [hxr] at hFl
          exact hFl
      · have hr0 : Fl.rg x = 0 := by
          rcases Nat.eq_zero_or_pos (Fl.rg x) with h | h
          · exact h
          · have := Fl.Nv_lt h
            exfalso
            apply hneg
            unfold Fl.Zv
            rw [hs, if_pos rfl]
            omega
        have hx : x = 9223372036854775808 := by
          unfold Fl.sg at hs
          unfold Fl.rg at hr0
          rcases Nat.lt_or_ge x 9223372036854775808 with h | h
          · rw [show x / 9223372036854775808 = 0 by omega] at hs; cases hs
          · omega
        subst hx
        refine ⟨9223372036854775808, hf, by decide +kernel, fun W => ?_⟩
        have h46 := run_floor 9223372036854775808 hf W
        rw [show FloatKind.f64.encode ((FloatKind.f64.decode 9223372036854775808).integral .down) = 9223372036854775808 by decide +kernel] at h46
        exact floor_any _ _ _ _ h46
    have hge := ge_beyond hyf hz
    have hltb := lt_beyond hyf hz
    have hcv := conv_whole hyf hz
    have hv0 : 0 ≤ cutOf x := by
      unfold cutOf
      cases hs : Fl.sg x
      · rw [if_neg (by simp)]; omega
      · have : Fl.Iv (Fl.rg x) = 0 := by
          have : Fl.Nv (Fl.rg x) = 0 := by unfold Fl.Zv at hneg; rw [hs, if_pos rfl] at hneg; omega
          unfold Fl.Iv; rw [this, Nat.zero_div]
        rw [if_pos rfl, this]; decide
    obtain ⟨v, hve⟩ : ∃ v, cutOf x = v := ⟨_, rfl⟩
    rw [hve] at hge hltb hcv hv0 ⊢
    rw [decide_eq_true (show -9223372036854775808 ≤ v by omega)] at hge
    clear ho hneg hyf hz hve hqe hv hq hFl h0 hf
    by_cases hin : v < 9223372036854775808
    · have hT : toOf v = .tuple #[.int .i64 v, .int .i64 0] := by unfold toOf; rw [if_pos (by omega)]
      have hc := fun W => run_convert_float_int (P := Tryz.prog) W 140 36 .f64 .i64 y v (by kernel_rfl) (by kernel_rfl) (hcv (by omega) hin)
      rw [decide_eq_true hin] at hltb
      rw [hT]
      clear hT hcv
      go_enter Tryz.func138, Tryz.ntmps138
      go_wp2_with fail
      refine (hN _).mono ?_
      rintro _ _ ⟨rfl, rfl⟩
      go_wp2_with fail
      refine (hFloor _).mono ?_
      rintro _ _ ⟨rfl, rfl⟩
      go_wp2_with fail
      go_ret2
      exact ⟨rfl, rfl⟩
    · have hT : toOf v = .tuple #[.int .i64 0, .int .i64 (-43)] := by unfold toOf; rw [if_neg (by omega)]
      rw [decide_eq_false hin] at hltb
      rw [hT]
      clear hT hcv
      go_enter Tryz.func138, Tryz.ntmps138
      go_wp2_with fail
      refine (hN _).mono ?_
      rintro _ _ ⟨rfl, rfl⟩
      go_wp2_with fail
      refine (hFloor _).mono ?_
      rintro _ _ ⟨rfl, rfl⟩
      go_wp2_with fail
      go_ret2
      exact ⟨rfl, rfl⟩
end Go.Proofs.YtkbchpaofmlhgaaGreatDoor.Rl

/- The contracts of package real: less a number, To of any cell. -/
namespace Go.Proofs.YtkbchpaofmlhgaaGreatDoor.Rl
open Go.RowKit

theorem one_neg (a : Int) (w : World) : Calls Tryz.prog 79 #[.int .i64 1, .int .i64 a] w fun e w' => e = .returned (.tuple #[.int .i64 (madeOf (negOf (bitsOf a))), .int .i64 0]) ∧ w = w' := by
  have hen := fun W => neg_run (P := Tryz.prog) W (bitsOf a)
  rw [negFloat_eq _ (bitsOf_lt a)] at hen
  go_enter Tryz.func79, Tryz.ntmps79
  go_wp2_with fail
  refine (number_any a _).mono ?_
  rintro _ _ ⟨rfl, rfl⟩
  go_wp2_with fail
  refine (made_any _ (neg_lt _ (bitsOf_lt a)) _).mono ?_
  rintro _ _ ⟨rfl, rfl⟩
  go_wp2_with fail
  go_ret2
  exact ⟨rfl, rfl⟩
theorem floor_inf (x : Nat) (h : Fl.rg x = 9218868437227405312) (hx : x < 18446744073709551616) (w : World) : Calls Tryz.prog 219 #[.float .f64 x] w fun e w' => e = .returned (.float .f64 x) ∧ w = w' := by
  refine floor_any x x w w ?_
  rw [run_callFunc_extern Tryz.func240 (by kernel_rfl) (by kernel_rfl) (by kernel_rfl) (e := Extern.MathFloor.toIntegral "math.archFloor" .down) (by kernel_rfl)]
  have e : FloatKind.f64.decode x = .infinity (Fl.sg x) := Fl.read_inf h
  obtain ⟨F, hF⟩ : ∃ F : Bool → Nat → Sem Value, Extern.MathFloor.toIntegral "math.archFloor" .down #[.float .f64 x] = (match FloatKind.f64.decode x with
    | .nan s t => F s t
    | d => pure (.float .f64 (FloatKind.f64.encode (d.integral .down)))) := ⟨_, rfl⟩
  rw [hF, e]
  have hc : x = 9218868437227405312 ∨ x = 18442240474082181120 := by unfold Fl.rg at h; omega
  rcases hc with rfl | rfl <;> rfl
theorem floor_nan (x : Nat) (h : 9218868437227405312 < Fl.rg x) (w : World) : Calls Tryz.prog 219 #[.float .f64 x] w fun e w' => ∃ v, e = .returned (.float .f64 v) ∧ nanB v ∧ Touch [] w w' := by
  have key : ∃ v w1, (callFunc 240 #[.float .f64 x]).run Tryz.prog w = .ok (.value (.float .f64 v)) w1 ∧ nanB v ∧ Touch [] w w1 := by
    rw [run_callFunc_extern Tryz.func240 (by kernel_rfl) (by kernel_rfl) (by kernel_rfl) (e := Extern.MathFloor.toIntegral "math.archFloor" .down) (by kernel_rfl)]
    have e : FloatKind.f64.decode x = .nan (Fl.sg x) (Fl.rg x - 9218868437227405312) := Fl.read_nan h
    have hF : Extern.MathFloor.toIntegral "math.archFloor" .down #[.float .f64 x] = (match FloatKind.f64.decode x with
      | .nan s t => (if FloatKind.f64.format.quiet t = t then pure (.float .f64 x) else do
          let kept ← choose (.extern "math.Floor,Ceil,Trunc,RoundToEven.signallingNaN kept" 2)
          pure (.float .f64 (if kept == 1 then x else FloatKind.f64.encode (.nan s (FloatKind.f64.format.quiet t)))))
      | d => pure (.float .f64 (FloatKind.f64.encode (d.integral .down)))) := rfl
    rw [hF, e]
    dsimp only
    by_cases hq : FloatKind.f64.format.quiet (Fl.rg x - 9218868437227405312) = Fl.rg x - 9218868437227405312
    · rw [if_pos hq]
      exact ⟨x, w, rfl, h, Touch.refl _ _⟩
    · rw [if_neg hq]
      refine ⟨if (Question.extern "math.Floor,Ceil,Trunc,RoundToEven.signallingNaN kept" 2).cut (w.tape w.drawn (.extern "math.Floor,Ceil,Trunc,RoundToEven.signallingNaN kept" 2)) == 1 then x else FloatKind.f64.encode (.nan (Fl.sg x) (FloatKind.f64.format.quiet (Fl.rg x - 9218868437227405312))), w.drew, rfl, ?_, (Touch.refl _ _).drew⟩
      split
      · exact h
      · have ht0 : Fl.rg x - 9218868437227405312 < 4503599627370496 := by unfold Fl.rg; omega
        have hq2 : FloatKind.f64.format.quiet (Fl.rg x - 9218868437227405312) < 4503599627370496 := Nat.or_lt_two_pow (n := 52) ht0 (by decide)
        have hq3 : 0 < FloatKind.f64.format.quiet (Fl.rg x - 9218868437227405312) := Nat.lt_of_lt_of_le (by decide : 0 < 2 ^ 51) (Nat.right_le_or)
        generalize FloatKind.f64.format.quiet (Fl.rg x - 9218868437227405312) = t at *
        show 9218868437227405312 < Fl.rg (Ieee.double.word (Fl.sg x) (Ieee.double.infRung + t % Ieee.double.binade))
        unfold Fl.rg Ieee.Format.word
        rw [Fl.c_sign, Fl.c_inf, Fl.c_binade]
        split <;> omega
  obtain ⟨v, w1, h1, h2, h3⟩ := key
  refine (floor_any x v w w1 h1).mono ?_
  rintro _ _ ⟨rfl, rfl⟩
  exact ⟨v, rfl, h2, h3⟩
/-- what To tells of any cell -/
def toR (a : Int) : Int × Int := if Fl.rg (bitsOf a) < 9218868437227405312 ∧ -9223372036854775808 ≤ cutOf (bitsOf a) ∧ cutOf (bitsOf a) < 9223372036854775808 then (cutOf (bitsOf a), 0) else (0, -43)
set_option maxHeartbeats 1000000 in
theorem to_any (a : Int) (w : World) : Calls Tryz.prog 138 #[.int .i64 a] w fun e w' => e = .returned (.tuple #[.int .i64 (toR a).1, .int .i64 (toR a).2]) ∧ Touch [] w w' := by
  by_cases hf : Fl.rg (bitsOf a) < 9218868437227405312
  · refine (to_fin a hf w).mono ?_
    rintro _ _ ⟨rfl, rfl⟩
    refine ⟨?_, Touch.refl _ _⟩
    unfold toOf toR
    by_cases hr : -9223372036854775808 ≤ cutOf (bitsOf a) ∧ cutOf (bitsOf a) < 9223372036854775808
    · rw [if_pos hr, if_pos ⟨hf, hr⟩]
    · rw [if_neg hr, if_neg (fun h => hr h.2)]
  · have e : toR a = (0, -43) := by unfold toR; rw [if_neg (fun h => hf h.1)]
    rw [e]
    clear e
    have hN := number_any a
    obtain ⟨x, hx⟩ : ∃ x, bitsOf a = x := ⟨_, rfl⟩
    have hlt : x < 18446744073709551616 := by rw [← hx]; exact bitsOf_lt a
    rw [hx] at hN hf
    clear hx
    by_cases hi : Fl.rg x = 9218868437227405312
    · have hc : x = 9218868437227405312 ∨ x = 18442240474082181120 := by unfold Fl.rg at hi; omega
      clear hf hi hlt
      rcases hc with rfl | rfl
      · have hFl := fun w => floor_inf 9218868437227405312 (by decide) (by decide) w
        have o1 : (FloatKind.f64.format.order 9218868437227405312 0 == some .lt) = false := by decide +kernel
        have o2 : (FloatKind.f64.format.order 9218868437227405312 14114281232179134464 == some .gt || FloatKind.f64.format.order 9218868437227405312 14114281232179134464 == some .eq) = true := by decide +kernel
        have o3 : (FloatKind.f64.format.order 9218868437227405312 4890909195324358656 == some .lt) = false := by decide +kernel
        go_enter Tryz.func138, Tryz.ntmps138
        go_wp2_with fail
        refine (hN _).mono ?_
        rintro _ _ ⟨rfl, rfl⟩
        go_wp2_with fail
        refine (hFl _).mono ?_
        rintro _ _ ⟨rfl, rfl⟩
        go_wp2_with fail
        go_ret2
        exact ⟨rfl, Touch.refl _ _⟩
      · have hFl := fun w => floor_inf 9218868437227405312 (by decide) (by decide) w
        have o1 : (FloatKind.f64.format.order 18442240474082181120 0 == some .lt) = true := by decide +kernel
        have o2 : (FloatKind.f64.format.order 18442240474082181120 14114281232179134464 == some .gt || FloatKind.f64.format.order 18442240474082181120 14114281232179134464 == some .eq) = false := by decide +kernel
        have o3 : (FloatKind.f64.format.order 18442240474082181120 4890909195324358656 == some .lt) = true := by decide +kernel
        have hen := fun W => neg_run (P := Tryz.prog) W 18442240474082181120
        have hen2 := fun W => neg_run (P := Tryz.prog) W 9218868437227405312
        rw [show Op.negFloat .f64 18442240474082181120 = 9218868437227405312 by decide +kernel] at hen
        rw [show Op.negFloat .f64 9218868437227405312 = 18442240474082181120 by decide +kernel] at hen2
        go_enter Tryz.func138, Tryz.ntmps138
        go_wp2_with fail
        refine (hN _).mono ?_
        rintro _ _ ⟨rfl, rfl⟩
        go_wp2_with fail
        refine (hFl _).mono ?_
        rintro _ _ ⟨rfl, rfl⟩
        go_wp2_with fail
        go_ret2
        exact ⟨rfl, Touch.refl _ _⟩
    · have hnan : 9218868437227405312 < Fl.rg x := by omega
      have hFl := fun w => floor_nan x hnan w
      have o1 : (FloatKind.f64.format.order x 0 == some .lt) = false := by
        have : FloatKind.f64.format.order x 0 = none := Fl.order_nan (.inl hnan)
        rw [this]
        rfl
      have hv : ∀ v, nanB v → (FloatKind.f64.format.order v 14114281232179134464 == some .gt || FloatKind.f64.format.order v 14114281232179134464 == some .eq) = false ∧ (FloatKind.f64.format.order v 4890909195324358656 == some .lt) = false := by
        intro v hv
        have h1 : FloatKind.f64.format.order v 14114281232179134464 = none := Fl.order_nan (.inl hv)
        have h2 : FloatKind.f64.format.order v 4890909195324358656 = none := Fl.order_nan (.inl hv)
        rw [h1, h2]
        exact ⟨rfl, rfl⟩
      have HV := Lib.hid hv
      clear hf hi hv
      go_enter Tryz.func138, Tryz.ntmps138
      go_wp2_with fail
      refine (hN _).mono ?_
      rintro _ _ ⟨rfl, rfl⟩
      go_wp2_with fail
      refine (hFl _).mono ?_
      rintro _ w1 ⟨v, rfl, hv, t1⟩
      obtain ⟨o2, o3⟩ := HV.out v hv
      have T1 := Lib.hid t1
      clear t1
      go_wp2_with fail
      go_ret2
      exact ⟨rfl, T1.out⟩
end Go.Proofs.YtkbchpaofmlhgaaGreatDoor.Rl
