import Derived.Test.YtkbchpaofmlhgaaGreatDoorReals7
import Derived.Test.YtkbchpaofmlhgaaGreatDoorJFloatA
import Derived.Laws.Bits64b
import Derived.Lib.TrailingZeros
import Derived.Laws.FloatArith
import Derived.Laws.BitsAllLaws
/- The contracts of package real: its small functions, One, Two (collected by mkrealp.py out of XReal1, XReal2). -/
namespace Go.Proofs.YtkbchpaofmlhgaaGreatDoor.Rl
open Go.RowKit

/-- the machine's own four: bits as a number and back, and what is rounded -/
theorem run_frombits (n : Int) (w : World) : (callFunc 205 #[.int .u64 n]).run Tryz.prog w = .ok (.value (.float .f64 n.toNat)) w := by
  rw [run_callFunc_extern Tryz.func205 (by kernel_rfl) (by kernel_rfl) (by kernel_rfl) (e := Extern.MathFloatBits.float64frombits) (by kernel_rfl)]
  rfl
theorem run_tobits (n : Nat) (w : World) : (callFunc 206 #[.float .f64 n]).run Tryz.prog w = .ok (.value (.int .u64 n)) w := by
  rw [run_callFunc_extern Tryz.func206 (by kernel_rfl) (by kernel_rfl) (by kernel_rfl) (e := Extern.MathFloatBits.float64bits) (by kernel_rfl)]
  rfl
theorem run_floor (x : Nat) (h : Fl.fin x) (w : World) : (callFunc 240 #[.float .f64 x]).run Tryz.prog w = .ok (.value (.float .f64 (FloatKind.f64.encode ((FloatKind.f64.decode x).integral .down)))) w := by
  rw [run_callFunc_extern Tryz.func240 (by kernel_rfl) (by kernel_rfl) (by kernel_rfl) (e := Extern.MathFloor.toIntegral "math.archFloor" .down) (by kernel_rfl)]
  have e : FloatKind.f64.decode x = .number (Fl.sg x) (Fl.M (Fl.rg x)) (-1074 + (Fl.E (Fl.rg x) : Int)) := Fl.read_fin h
  obtain ⟨F, hF⟩ : ∃ F : Bool → Nat → Sem Value, Extern.MathFloor.toIntegral "math.archFloor" .down #[.float .f64 x] = (match FloatKind.f64.decode x with
    | .nan s t => F s t
    | d => pure (.float .f64 (FloatKind.f64.encode (d.integral .down)))) := ⟨_, rfl⟩
  rw [hF, e]
  rfl
set_option maxRecDepth 100000 in
theorem number_any (a : Int) (w : World) : Calls Tryz.prog 97 #[.int .i64 a] w fun e w' => e = .returned (.float .f64 (bitsOf a)) ∧ w = w' := by
  have h44 := run_frombits (IntKind.u64.wrap a)
  have e : (IntKind.u64.wrap a).toNat = bitsOf a := by rw [IntKind.wrap_u64]; rfl
  rw [e] at h44
  clear e
  go_enter Tryz.func97, Tryz.ntmps97
  go_wp2
  go_ret
  exact ⟨rfl, rfl⟩
theorem tz_key (x a : Nat) (hx : x < 18446744073709551616) (hlow : x &&& (18446744073709551616 - x) = a) :
    IntKind.u64.wrap (bits BinOp.and IntKind.u64 (x : Int) (IntKind.u64.wrap (-(x : Int))) * 285870213051353865) / 288230376151711744 = ((a * 285870213051353865 % 18446744073709551616 / 288230376151711744 : Nat) : Int) := by
  by_cases h0 : x = 0
  · subst h0
    have : a = 0 := by rw [← hlow]; simp
    subst this
    decide
  have e1 : IntKind.u64.wrap (-(x : Int)) = ((18446744073709551616 - x : Nat) : Int) := by rw [IntKind.wrap_u64]; omega
  rw [e1, bits_and_u64_nat x _ hx (by omega), hlow, IntKind.wrap_u64]
  omega
/-- the table in its variable -/
def TzTab (w : World) : Prop := ∀ j, j < Lib.deBruijn64tab.length → w.cell? ⟨3, j, none⟩ = some (.int .u8 (Lib.deBruijn64tab.getD j 0))
set_option maxHeartbeats 1000000 in
theorem tz_any (x : Nat) (hx : x < 18446744073709551616) (h0 : x ≠ 0) (w : World) (hT : TzTab w) :
    Calls Tryz.prog 242 #[.int .u64 x] w fun e w' => e = .returned (.int .i64 (Lib.ctz 64 x)) ∧ w = w' := by
  obtain ⟨hlow, hk⟩ := Lib.lowest_bit 64 x h0 hx
  obtain ⟨hi, htab⟩ := Lib.deBruijn64_at _ hk
  have key := tz_key x _ hx hlow
  have hc := hT _ (show _ < Lib.deBruijn64tab.length from hi)
  rw [htab] at hc
  obtain ⟨i, hie⟩ : ∃ i, 2 ^ Lib.ctz 64 x * 285870213051353865 % 18446744073709551616 / 288230376151711744 = i := ⟨_, rfl⟩
  rw [hie] at key hc hi
  obtain ⟨k, hke⟩ : ∃ k, Lib.ctz 64 x = k := ⟨_, rfl⟩
  rw [hke] at hc hk ⊢
  have hx0 : ((x : Int) == 0) = false := by rw [beq_eq_false_iff_ne]; omega
  clear hlow htab hie hke hT h0
  go_enter Tryz.func242, Tryz.ntmps242
  go_wp2_with (simp only [key])
  go_ret
  exact ⟨rfl, rfl⟩
/-- is it none? -/
def nanB (x : Nat) : Prop := 9218868437227405312 < Fl.rg x
instance (x : Nat) : Decidable (nanB x) := inferInstanceAs (Decidable (_ < _))
/-- a machine's number as a cell -/
def madeOf (x : Nat) : Int := if nanB x then 9221120237041090560 else cellOf x
def resOf : Option Nat → Int
  | none => 9221120237041090560
  | some r => madeOf r
theorem order_self (x : Nat) : Ieee.double.order x x = if nanB x then none else some .eq := by
  have hn : nanB x ↔ 9218868437227405312 < Fl.rg x := Iff.rfl
  by_cases h1 : Fl.rg x < 9218868437227405312
  · rw [if_neg (by rw [hn]; omega), Fl.order_fin h1 h1, Int.compare_eq_eq.2 rfl]
  · by_cases h2 : Fl.rg x = 9218868437227405312
    · rw [if_neg (by rw [hn]; omega)]
      unfold Ieee.Format.order
      rw [Fl.read_inf h2]
      cases Fl.sg x <;> rfl
    · rw [if_pos (by rw [hn]; omega)]
      unfold Ieee.Format.order
      rw [Fl.read_nan (by omega)]
      rfl
set_option maxRecDepth 100000 in
theorem made_any (x : Nat) (hx : x < 18446744073709551616) (w : World) : Calls Tryz.prog 98 #[.float .f64 x] w fun e w' => e = .returned (.int .i64 (madeOf x)) ∧ w = w' := by
  have h45 := run_tobits x
  have ho : FloatKind.f64.format.order x x = _ := order_self x
  have hc : IntKind.i64.wrap (x : Int) = cellOf x := by
    rw [IntKind.wrap_i64]
    unfold cellOf
    split <;> omega
  unfold madeOf
  by_cases hn : nanB x
  · rw [if_pos hn] at ho ⊢
    have h1 : (FloatKind.f64.format.order x x != some .eq) = true := by rw [ho]; rfl
    clear ho hn
    go_enter Tryz.func98, Tryz.ntmps98
    go_wp2
    go_ret
    exact ⟨rfl, rfl⟩
  · rw [if_neg hn] at ho ⊢
    have h1 : (FloatKind.f64.format.order x x != some .eq) = false := by rw [ho]; rfl
    clear ho hn
    go_enter Tryz.func98, Tryz.ntmps98
    go_wp2_with (simp only [hc])
    go_ret
    exact ⟨rfl, rfl⟩
/-- THE FOUR SUMS: what made tells of it hangs on no tape. -/
theorem nan_cut (x y : Nat) (t : Nat) : nanB ((Question.nanBits .f64 x y).cut t) ∧ (Question.nanBits .f64 x y).cut t < 18446744073709551616 := by
  unfold nanB Fl.rg
  show _ < ((t % 2) * 2 ^ 63 + 0x7ff0000000000000 + 1 + (t / 2) % (2 ^ 52 - 1)) % _ ∧ (t % 2) * 2 ^ 63 + 0x7ff0000000000000 + 1 + (t / 2) % (2 ^ 52 - 1) < _
  have h1 : t % 2 = 0 ∨ t % 2 = 1 := by omega
  have h2 : (t / 2) % (2 ^ 52 - 1) < 2 ^ 52 - 1 := Nat.mod_lt _ (by decide)
  generalize t % 2 = a at h1 ⊢
  generalize (t / 2) % (2 ^ 52 - 1) = b at h2 ⊢
  rcases h1 with rfl | rfl <;> omega
theorem nan_cut2 (b : Bool) (x y : Nat) (t : Nat) : nanB ((Question.nanMinMax .f64 b x y).cut t) ∧ (Question.nanMinMax .f64 b x y).cut t < 18446744073709551616 := by
  unfold nanB Fl.rg
  show _ < ((t % 2) * 2 ^ 63 + 0x7ff0000000000000 + 1 + (t / 2) % (2 ^ 52 - 1)) % _ ∧ (t % 2) * 2 ^ 63 + 0x7ff0000000000000 + 1 + (t / 2) % (2 ^ 52 - 1) < _
  have h1 : t % 2 = 0 ∨ t % 2 = 1 := by omega
  have h2 : (t / 2) % (2 ^ 52 - 1) < 2 ^ 52 - 1 := Nat.mod_lt _ (by decide)
  generalize t % 2 = a at h1 ⊢
  generalize (t / 2) % (2 ^ 52 - 1) = b at h2 ⊢
  rcases h1 with rfl | rfl <;> omega
theorem arith_run {P : Program} (op : BinOp) (hop : op = .add ∨ op = .sub ∨ op = .mul ∨ op = .quo) (t : TypeId) (x y : Nat) (w : World) :
    ∃ v w1, Touch [] w w1 ∧ (binOp op t (.float .f64 x) (.float .f64 y)).run P w = .ok (.float .f64 v) w1 ∧ madeOf v = resOf (floatBits op .f64 x y) ∧ v < 18446744073709551616 := by
  cases hr : floatBits op .f64 x y with
  | some r =>
    refine ⟨r, w, Touch.refl _ _, run_float_arith w op t .f64 x y r hr, rfl, ?_⟩
    have := floatBits_wf hr
    simpa [Lit.wf] using this
  | none =>
    refine ⟨(Question.nanBits .f64 x y).cut (w.tape w.drawn (.nanBits .f64 x y)), w.drew, (Touch.refl _ _).drew, ?_, ?_, (nan_cut _ _ _).2⟩
    · rcases hop with rfl | rfl | rfl | rfl <;>
      · simp only [floatBits] at hr
        simp [binOp, Op.floatArith, hr]
        exact fun h => by cases h
    · unfold madeOf resOf; rw [if_pos (nan_cut _ _ _).1]
def minOf (x y : Nat) : Option Nat := match Ieee.double.order x y with
  | none => none
  | some .lt => some x
  | some .gt => some y
  | some .eq => some (if Fl.sg x then x else y)
def maxOf (x y : Nat) : Option Nat := match Ieee.double.order x y with
  | none => none
  | some .lt => some y
  | some .gt => some x
  | some .eq => some (if Fl.sg x then y else x)
theorem read_neg (x : Nat) : (FloatKind.f64.decode x).neg = Fl.sg x := by
  change (Ieee.double.read x).neg = _
  by_cases h1 : Fl.rg x < 9218868437227405312
  · rw [Fl.read_fin h1]; rfl
  · by_cases h2 : Fl.rg x = 9218868437227405312
    · rw [Fl.read_inf h2]; rfl
    · rw [Fl.read_nan (by omega)]; rfl
theorem min_run {P : Program} (ts : Array TypeId) (t : TypeId) (x y : Nat) (hx : x < 18446744073709551616) (hy : y < 18446744073709551616) (w : World) :
    ∃ v w1, Touch [] w w1 ∧ (Builtin.min_ ts t #[.float .f64 x, .float .f64 y]).run P w = .ok (.float .f64 v) w1 ∧ madeOf v = resOf (minOf x y) ∧ v < 18446744073709551616 := by
  unfold minOf
  rcases ho : Ieee.double.order x y with _ | o
  · have ho' : FloatKind.f64.format.order x y = none := ho
    refine ⟨(Question.nanMinMax .f64 false x y).cut (w.tape w.drawn (.nanMinMax .f64 false x y)), w.drew, (Touch.refl _ _).drew, ?_, ?_, (nan_cut2 _ _ _ _).2⟩
    · simp [Builtin.min_, Builtin.min2, ho']
      exact fun h => by cases h
    · unfold madeOf resOf; rw [if_pos (nan_cut2 _ _ _ _).1]
  · have ho' : FloatKind.f64.format.order x y = some o := ho
    cases o
    · exact ⟨x, w, Touch.refl _ _, by simp [Builtin.min_, Builtin.min2, ho'], rfl, hx⟩
    · exact ⟨if Fl.sg x then x else y, w, Touch.refl _ _, by simp [Builtin.min_, Builtin.min2, ho', read_neg], rfl, by split <;> assumption⟩
    · exact ⟨y, w, Touch.refl _ _, by simp [Builtin.min_, Builtin.min2, ho'], rfl, hy⟩
theorem max_run {P : Program} (ts : Array TypeId) (t : TypeId) (x y : Nat) (hx : x < 18446744073709551616) (hy : y < 18446744073709551616) (w : World) :
    ∃ v w1, Touch [] w w1 ∧ (Builtin.max_ ts t #[.float .f64 x, .float .f64 y]).run P w = .ok (.float .f64 v) w1 ∧ madeOf v = resOf (maxOf x y) ∧ v < 18446744073709551616 := by
  unfold maxOf
  rcases ho : Ieee.double.order x y with _ | o
  · have ho' : FloatKind.f64.format.order x y = none := ho
    refine ⟨(Question.nanMinMax .f64 true x y).cut (w.tape w.drawn (.nanMinMax .f64 true x y)), w.drew, (Touch.refl _ _).drew, ?_, ?_, (nan_cut2 _ _ _ _).2⟩
    · simp [Builtin.max_, Builtin.max2, ho']
      exact fun h => by cases h
    · unfold madeOf resOf; rw [if_pos (nan_cut2 _ _ _ _).1]
  · have ho' : FloatKind.f64.format.order x y = some o := ho
    cases o
    · exact ⟨y, w, Touch.refl _ _, by simp [Builtin.max_, Builtin.max2, ho'], rfl, hy⟩
    · exact ⟨if Fl.sg x then y else x, w, Touch.refl _ _, by simp [Builtin.max_, Builtin.max2, ho', read_neg], rfl, by split <;> assumption⟩
    · exact ⟨x, w, Touch.refl _ _, by simp [Builtin.max_, Builtin.max2, ho'], rfl, hx⟩
def truthC (b : Bool) : Int := if b then -1 else 0
theorem truth_any (b : Bool) (w : World) : Calls Tryz.prog 95 #[.bool b] w fun e w' => e = .returned (.int .i64 (truthC b)) ∧ w = w' := by
  cases b
  · go_enter Tryz.func95, Tryz.ntmps95
    go_wp2
    go_ret
    exact ⟨rfl, rfl⟩
  · go_enter Tryz.func95, Tryz.ntmps95
    go_wp2
    go_ret
    exact ⟨rfl, rfl⟩
theorem of_any (n : Int) (w : World) : Calls Tryz.prog 136 #[.int .i64 n] w fun e w' => e = .returned (.int .i64 (madeOf (floatOfInt .f64 n))) ∧ w = w' := by
  have hb : floatOfInt .f64 n < 18446744073709551616 := by
    have := floatOfInt_wf .f64 n
    simpa [Lit.wf] using this
  go_enter Tryz.func136, Tryz.ntmps136
  go_wp2_with fail
  refine (made_any _ hb _).mono ?_
  rintro _ _ ⟨rfl, rfl⟩
  go_wp2_with fail
  go_ret
  exact ⟨rfl, rfl⟩
set_option maxRecDepth 100000 in
theorem two_add (a b : Int) (w : World) : Calls Tryz.prog 81 #[.int .i64 3, .int .i64 a, .int .i64 b] w fun e w' => e = .returned (.tuple #[.int .i64 (resOf (floatBits .add .f64 (bitsOf a) (bitsOf b))), .int .i64 0]) ∧ Touch [] w w' := by
  obtain ⟨v, w1, ht, hrun, hv, hlt⟩ := arith_run (P := Tryz.prog) .add (by simp) 140 (bitsOf a) (bitsOf b) w
  rw [← hv]
  clear hv
  go_enter Tryz.func81, Tryz.ntmps81
  go_wp2_with fail
  refine (number_any a _).mono ?_
  rintro _ _ ⟨rfl, rfl⟩
  go_wp2_with fail
  refine (number_any b _).mono ?_
  rintro _ _ ⟨rfl, rfl⟩
  go_wp2_with fail
  refine (made_any v hlt _).mono ?_
  rintro _ _ ⟨rfl, rfl⟩
  go_wp2_with fail
  go_ret2
  exact ⟨rfl, ht⟩
set_option maxRecDepth 100000 in
theorem two_sub (a b : Int) (w : World) : Calls Tryz.prog 81 #[.int .i64 4, .int .i64 a, .int .i64 b] w fun e w' => e = .returned (.tuple #[.int .i64 (resOf (floatBits .sub .f64 (bitsOf a) (bitsOf b))), .int .i64 0]) ∧ Touch [] w w' := by
  obtain ⟨v, w1, ht, hrun, hv, hlt⟩ := arith_run (P := Tryz.prog) .sub (by simp) 140 (bitsOf a) (bitsOf b) w
  rw [← hv]
  clear hv
  go_enter Tryz.func81, Tryz.ntmps81
  go_wp2_with fail
  refine (number_any a _).mono ?_
  rintro _ _ ⟨rfl, rfl⟩
  go_wp2_with fail
  refine (number_any b _).mono ?_
  rintro _ _ ⟨rfl, rfl⟩
  go_wp2_with fail
  refine (made_any v hlt _).mono ?_
  rintro _ _ ⟨rfl, rfl⟩
  go_wp2_with fail
  go_ret2
  exact ⟨rfl, ht⟩
set_option maxRecDepth 100000 in
theorem two_mul (a b : Int) (w : World) : Calls Tryz.prog 81 #[.int .i64 5, .int .i64 a, .int .i64 b] w fun e w' => e = .returned (.tuple #[.int .i64 (resOf (floatBits .mul .f64 (bitsOf a) (bitsOf b))), .int .i64 0]) ∧ Touch [] w w' := by
  obtain ⟨v, w1, ht, hrun, hv, hlt⟩ := arith_run (P := Tryz.prog) .mul (by simp) 140 (bitsOf a) (bitsOf b) w
  rw [← hv]
  clear hv
  go_enter Tryz.func81, Tryz.ntmps81
  go_wp2_with fail
  refine (number_any a _).mono ?_
  rintro _ _ ⟨rfl, rfl⟩
  go_wp2_with fail
  refine (number_any b _).mono ?_
  rintro _ _ ⟨rfl, rfl⟩
  go_wp2_with fail
  refine (made_any v hlt _).mono ?_
  rintro _ _ ⟨rfl, rfl⟩
  go_wp2_with fail
  go_ret2
  exact ⟨rfl, ht⟩
set_option maxRecDepth 100000 in
theorem two_div (a b : Int) (w : World) : Calls Tryz.prog 81 #[.int .i64 6, .int .i64 a, .int .i64 b] w fun e w' => e = .returned (.tuple #[.int .i64 (resOf (floatBits .quo .f64 (bitsOf a) (bitsOf b))), .int .i64 0]) ∧ Touch [] w w' := by
  obtain ⟨v, w1, ht, hrun, hv, hlt⟩ := arith_run (P := Tryz.prog) .quo (by simp) 140 (bitsOf a) (bitsOf b) w
  rw [← hv]
  clear hv
  go_enter Tryz.func81, Tryz.ntmps81
  go_wp2_with fail
  refine (number_any a _).mono ?_
  rintro _ _ ⟨rfl, rfl⟩
  go_wp2_with fail
  refine (number_any b _).mono ?_
  rintro _ _ ⟨rfl, rfl⟩
  go_wp2_with fail
  refine (made_any v hlt _).mono ?_
  rintro _ _ ⟨rfl, rfl⟩
  go_wp2_with fail
  go_ret2
  exact ⟨rfl, ht⟩
set_option maxRecDepth 100000 in
theorem two_min (a b : Int) (w : World) : Calls Tryz.prog 81 #[.int .i64 7, .int .i64 a, .int .i64 b] w fun e w' => e = .returned (.tuple #[.int .i64 (resOf (minOf (bitsOf a) (bitsOf b))), .int .i64 0]) ∧ Touch [] w w' := by
  obtain ⟨v, w1, ht, hrun, hv, hlt⟩ := min_run (P := Tryz.prog) #[140, 140] 140 (bitsOf a) (bitsOf b) (bitsOf_lt a) (bitsOf_lt b) w
  rw [← hv]
  clear hv
  go_enter Tryz.func81, Tryz.ntmps81
  go_wp2_with fail
  refine (number_any a _).mono ?_
  rintro _ _ ⟨rfl, rfl⟩
  go_wp2_with fail
  refine (number_any b _).mono ?_
  rintro _ _ ⟨rfl, rfl⟩
  go_wp2_with fail
  refine (made_any v hlt _).mono ?_
  rintro _ _ ⟨rfl, rfl⟩
  go_wp2_with fail
  go_ret2
  exact ⟨rfl, ht⟩
set_option maxRecDepth 100000 in
theorem two_max (a b : Int) (w : World) : Calls Tryz.prog 81 #[.int .i64 8, .int .i64 a, .int .i64 b] w fun e w' => e = .returned (.tuple #[.int .i64 (resOf (maxOf (bitsOf a) (bitsOf b))), .int .i64 0]) ∧ Touch [] w w' := by
  obtain ⟨v, w1, ht, hrun, hv, hlt⟩ := max_run (P := Tryz.prog) #[140, 140] 140 (bitsOf a) (bitsOf b) (bitsOf_lt a) (bitsOf_lt b) w
  rw [← hv]
  clear hv
  go_enter Tryz.func81, Tryz.ntmps81
  go_wp2_with fail
  refine (number_any a _).mono ?_
  rintro _ _ ⟨rfl, rfl⟩
  go_wp2_with fail
  refine (number_any b _).mono ?_
  rintro _ _ ⟨rfl, rfl⟩
  go_wp2_with fail
  refine (made_any v hlt _).mono ?_
  rintro _ _ ⟨rfl, rfl⟩
  go_wp2_with fail
  go_ret2
  exact ⟨rfl, ht⟩
set_option maxRecDepth 100000 in
theorem two_less (a b : Int) (w : World) : Calls Tryz.prog 81 #[.int .i64 9, .int .i64 a, .int .i64 b] w fun e w' => e = .returned (.tuple #[.int .i64 (truthC (Ieee.double.order (bitsOf a) (bitsOf b) == some .lt)), .int .i64 0]) ∧ w = w' := by
  go_enter Tryz.func81, Tryz.ntmps81
  go_wp2_with fail
  refine (number_any a _).mono ?_
  rintro _ _ ⟨rfl, rfl⟩
  go_wp2_with fail
  refine (number_any b _).mono ?_
  rintro _ _ ⟨rfl, rfl⟩
  go_wp2_with fail
  refine (truth_any _ _).mono ?_
  rintro _ _ ⟨rfl, rfl⟩
  go_wp2_with fail
  go_ret2
  exact ⟨rfl, rfl⟩
set_option maxRecDepth 100000 in
theorem two_equal (a b : Int) (w : World) : Calls Tryz.prog 81 #[.int .i64 10, .int .i64 a, .int .i64 b] w fun e w' => e = .returned (.tuple #[.int .i64 (truthC (Ieee.double.order (bitsOf a) (bitsOf b) == some .eq)), .int .i64 0]) ∧ w = w' := by
  go_enter Tryz.func81, Tryz.ntmps81
  go_wp2_with fail
  refine (number_any a _).mono ?_
  rintro _ _ ⟨rfl, rfl⟩
  go_wp2_with fail
  refine (number_any b _).mono ?_
  rintro _ _ ⟨rfl, rfl⟩
  go_wp2_with fail
  refine (truth_any _ _).mono ?_
  rintro _ _ ⟨rfl, rfl⟩
  go_wp2_with fail
  go_ret2
  exact ⟨rfl, rfl⟩
set_option maxRecDepth 100000 in
theorem abs_any (x : Nat) (hx : x < 18446744073709551616) (w : World) : Calls Tryz.prog 99 #[.float .f64 x] w fun e w' => e = .returned (.float .f64 (Fl.rg x)) ∧ w = w' := by
  have h45 := run_tobits x
  have h44 := run_frombits
  have e1 : bits BinOp.andNot IntKind.u64 (x : Int) 9223372036854775808 = ((Fl.rg x : Nat) : Int) := by
    have := Go.u64_andNot_nat x 9223372036854775808 hx (by omega)
    rw [show ((9223372036854775808 : Nat) : Int) = 9223372036854775808 from rfl] at this
    rw [this, show (18446744073709551615 - 9223372036854775808 : Nat) = 2 ^ 63 - 1 from rfl, Nat.and_two_pow_sub_one_eq_mod]
    rfl
  have h44 := run_frombits (Fl.rg x)
  rw [Int.toNat_natCast] at h44
  go_enter Tryz.func99, Tryz.ntmps99
  go_wp2_with (simp only [e1])
  go_ret
  exact ⟨rfl, rfl⟩
set_option maxRecDepth 100000 in
theorem floor_any (x v : Nat) (w w1 : World) (h46 : (callFunc 240 #[.float .f64 x]).run Tryz.prog w = .ok (.value (.float .f64 v)) w1) : Calls Tryz.prog 219 #[.float .f64 x] w fun e w' => e = .returned (.float .f64 v) ∧ w1 = w' := by
  go_enter Tryz.func219, Tryz.ntmps219
  go_wp2
  go_ret
  exact ⟨rfl, rfl⟩
set_option maxRecDepth 100000 in
theorem signbit_any (x : Nat) (hx : x < 18446744073709551616) (w : World) : Calls Tryz.prog 221 #[.float .f64 x] w fun e w' => e = .returned (.bool (Fl.sg x)) ∧ w = w' := by
  have h45 := run_tobits x
  have h1 : decide (wrap64 (x : Int) < 0) = Fl.sg x := by
    unfold Fl.sg wrap64
    by_cases h : x < 9223372036854775808
    · have : x / 9223372036854775808 = 0 := by omega
      rw [this]
      simp; omega
    · have : x / 9223372036854775808 = 1 := by omega
      rw [this]
      simp; omega
  go_enter Tryz.func221, Tryz.ntmps221
  go_wp2_with (simp only [h1])
  go_ret
  exact ⟨rfl, rfl⟩
/-- a number with its sign turned -/
def negOf (x : Nat) : Nat := if x < 9223372036854775808 then 9223372036854775808 + x else x - 9223372036854775808
theorem xor_low (b : Nat) (h : b < 2 ^ 63) : b ^^^ 2 ^ 63 = 2 ^ 63 + b := by
  have e := Nat.two_pow_add_eq_or_of_lt h 1
  rw [Nat.mul_one] at e
  rw [e]
  apply Nat.eq_of_testBit_eq
  intro i
  rw [Nat.testBit_xor, Nat.testBit_or, Nat.testBit_two_pow]
  by_cases hi : 63 = i
  · subst hi
    rw [Nat.testBit_lt_two_pow h]
    rfl
  · simp [hi]
theorem negFloat_eq (x : Nat) (hx : x < 18446744073709551616) : Op.negFloat .f64 x = negOf x := by
  change x ^^^ 2 ^ 63 = _
  unfold negOf
  by_cases h : x < 9223372036854775808
  · rw [if_pos h, xor_low x h]
  · rw [if_neg h]
    have := xor_low (x - 9223372036854775808) (by omega)
    have e : x = (x - 9223372036854775808) ^^^ 2 ^ 63 := by rw [this]; omega
    rw [show x ^^^ 2 ^ 63 = ((x - 9223372036854775808) ^^^ 2 ^ 63) ^^^ 2 ^ 63 by rw [← e], Nat.xor_assoc, Nat.xor_self, Nat.xor_zero]
theorem sg_neg (x : Nat) (hx : x < 18446744073709551616) : Fl.sg (negOf x) = !Fl.sg x := by
  unfold negOf Fl.sg
  split
  · rw [show (9223372036854775808 + x) / 9223372036854775808 = 1 by omega, show x / 9223372036854775808 = 0 by omega]; rfl
  · rw [show (x - 9223372036854775808) / 9223372036854775808 = 0 by omega, show x / 9223372036854775808 = 1 by omega]; rfl
theorem rg_neg (x : Nat) : Fl.rg (negOf x) = Fl.rg x := by
  unfold negOf Fl.rg
  split <;> omega
theorem neg_lt (x : Nat) (hx : x < 18446744073709551616) : negOf x < 18446744073709551616 := by
  unfold negOf
  split <;> omega
theorem bits_made (x : Nat) (hx : x < 18446744073709551616) (hn : ¬ nanB x) : bitsOf (madeOf x) = x := by
  unfold madeOf bitsOf cellOf
  rw [if_neg hn]
  split <;> omega
theorem rg_lt (x : Nat) : Fl.rg x < 9223372036854775808 := Nat.mod_lt _ (by decide)
theorem sg_rg (x : Nat) : Fl.sg (Fl.rg x) = false := by
  have := rg_lt x
  unfold Fl.sg
  rw [show Fl.rg x / 9223372036854775808 = 0 by omega]
  rfl
theorem rg_rg (x : Nat) : Fl.rg (Fl.rg x) = Fl.rg x := by
  have := rg_lt x
  unfold Fl.rg at *
  omega
/-- is it without end? -/
theorem order_big (x : Nat) : (FloatKind.f64.format.order (Fl.rg x) 9218868437227405311 == some .gt) = (Fl.rg x == 9218868437227405312) := by
  change (Ieee.double.order (Fl.rg x) 9218868437227405311 == some .gt) = _
  have hb : Fl.fin 9218868437227405311 := by unfold Fl.fin; decide
  by_cases h1 : Fl.rg x < 9218868437227405312
  · have hf : Fl.fin (Fl.rg x) := by unfold Fl.fin; rw [rg_rg]; exact h1
    rw [Fl.order_fin hf hb]
    have e1 : Fl.Zv (Fl.rg x) = Fl.Nv (Fl.rg x) := by unfold Fl.Zv; rw [sg_rg, rg_rg]; rfl
    have e2 : Fl.Zv 9218868437227405311 = Fl.Nv 9218868437227405311 := by unfold Fl.Zv; rw [show Fl.sg 9218868437227405311 = false by decide, show Fl.rg 9218868437227405311 = 9218868437227405311 by decide]; rfl
    have hle : Fl.Nv (Fl.rg x) ≤ Fl.Nv 9218868437227405311 := by
      by_cases h2 : Fl.rg x = 9218868437227405311
      · rw [h2]; exact Nat.le_refl _
      · exact Nat.le_of_lt (Fl.Nv_lt (by omega))
    rw [e1, e2, beq_eq_false_iff_ne.2 (show Fl.rg x ≠ 9218868437227405312 by omega)]
    rcases Nat.lt_or_ge (Fl.Nv (Fl.rg x)) (Fl.Nv 9218868437227405311) with h | h
    · rw [Int.compare_eq_lt.2 (by exact_mod_cast h)]; rfl
    · rw [show Fl.Nv (Fl.rg x) = Fl.Nv 9218868437227405311 from Nat.le_antisymm hle h, Int.compare_eq_eq.2 rfl]; rfl
  · by_cases h2 : Fl.rg x = 9218868437227405312
    · rw [h2]; decide
    · rw [beq_eq_false_iff_ne.2 h2]
      unfold Ieee.Format.order
      rw [Fl.read_nan (w := Fl.rg x) (by rw [rg_rg]; omega)]
      rfl
set_option maxRecDepth 100000 in
theorem isInf_any (x : Nat) (hx : x < 18446744073709551616) (w : World) : Calls Tryz.prog 222 #[.float .f64 x, .int .i64 0] w fun e w' => e = .returned (.bool (Fl.rg x == 9218868437227405312)) ∧ w = w' := by
  have h1 := order_big x
  go_enter Tryz.func222, Tryz.ntmps222
  go_wp2_with fail
  refine (abs_any x hx _).mono ?_
  rintro _ _ ⟨rfl, rfl⟩
  go_wp2_with fail
  go_ret
  exact ⟨rfl, rfl⟩
set_option maxRecDepth 100000 in
theorem one_abs (a : Int) (w : World) : Calls Tryz.prog 79 #[.int .i64 2, .int .i64 a] w fun e w' => e = .returned (.tuple #[.int .i64 (madeOf (Fl.rg (bitsOf a))), .int .i64 0]) ∧ w = w' := by
  go_enter Tryz.func79, Tryz.ntmps79
  go_wp2_with fail
  refine (number_any a _).mono ?_
  rintro _ _ ⟨rfl, rfl⟩
  go_wp2_with fail
  refine (abs_any _ (bitsOf_lt a) _).mono ?_
  rintro _ _ ⟨rfl, rfl⟩
  go_wp2_with fail
  refine (made_any _ (Nat.lt_trans (rg_lt _) (by decide)) _).mono ?_
  rintro _ _ ⟨rfl, rfl⟩
  go_wp2_with fail
  go_ret2
  exact ⟨rfl, rfl⟩
end Go.Proofs.YtkbchpaofmlhgaaGreatDoor.Rl
