/- The walk of RealWhole. -/
import Derived.Test.YtibifcchmccknaaDoorReal6
namespace Go.Proofs.YtibifcchmccknaaDoor
open Go.RowKit

/-- what the law asks of two whole numbers, laid out for the walk -/
structure WholeIs (x y : Int) : Prop where
  add : ∀ w, Calls Tryd.prog 12 #[.int .i64 3, .int .i64 x, .int .i64 y] w fun e w' => e = .returned (.int .i64 (ofC (x + y))) ∧ Touch [] w w'
  sub : ∀ w, Calls Tryd.prog 12 #[.int .i64 4, .int .i64 x, .int .i64 y] w fun e w' => e = .returned (.int .i64 (ofC (x - y))) ∧ Touch [] w w'
  mul : x ≠ 0 → y ≠ 0 → ∀ w, Calls Tryd.prog 12 #[.int .i64 5, .int .i64 x, .int .i64 y] w fun e w' => e = .returned (.int .i64 (ofC (x * y))) ∧ Touch [] w w'
  less : ∀ w, Calls Tryd.prog 12 #[.int .i64 9, .int .i64 x, .int .i64 y] w fun e w' => e = .returned (.int .i64 (truthC (decide (x < y)))) ∧ Touch [] w w'
  equal : ∀ w, Calls Tryd.prog 12 #[.int .i64 10, .int .i64 x, .int .i64 y] w fun e w' => e = .returned (.int .i64 (truthC (x == y))) ∧ Touch [] w w'
  half : ∃ h : Int, (∀ w, Calls Tryd.prog 12 #[.int .i64 6, .int .i64 x, .int .i64 2] w fun e w' => e = .returned (.int .i64 h) ∧ Touch [] w w') ∧
    (∀ w, Calls Tryd.prog 15 #[.int .i64 h] w fun e w' => e = .returned (.tuple #[.int .i64 (Int.tdiv x 2), .int .i64 0]) ∧ w = w') ∧
    (∀ w, Calls Tryd.prog 10 #[.int .i64 3, .int .i64 h, .int .i64 h] w fun e w' => e = .returned (.tuple #[.int .i64 (ofC x), .int .i64 0]) ∧ Touch [] w w')
theorem mul_bound (x y : Int) (hx : x.natAbs ≤ 16777216) (hy : y.natAbs ≤ 16777216) : (x * y).natAbs ≤ 281474976710656 := by
  rw [Int.natAbs_mul]
  exact Nat.mul_le_mul hx hy
theorem whole_is (x y : Int) (hx : x.natAbs ≤ 16777216) (hy : y.natAbs ≤ 16777216) : WholeIs x y where
  add w := whole_add x y w (by omega) (by omega) (by omega)
  sub w := whole_sub x y w (by omega) (by omega) (by omega)
  mul h0 h1 w := whole_mul x y w (by omega) (by omega) (by have := mul_bound x y hx hy; omega) h0 h1
  less w := whole_less x y w (by omega) (by omega)
  equal w := by
    have e : (x == y) = decide (x = y) := by by_cases h : x = y <;> simp [h]
    rw [e]
    exact whole_equal x y w (by omega) (by omega)
  half := whole_half x (by omega)
theorem of_whole (n : Int) (w : World) : Calls Tryd.prog 13 #[.int .i64 n] w fun e w' => e = .returned (.int .i64 (ofC n)) ∧ w = w' := of_any n w

set_option maxHeartbeats 6400000 in
set_option maxRecDepth 100000 in
theorem RealWhole_walk (a b : Int) (a0 : -2147483648 ≤ a) (a1 : a ≤ 2147483647) (b0 : -2147483648 ≤ b) (b1 : b ≤ 2147483647) (w : World) (hT : TzTab w) (hP : PowTab w) :
    Calls Tryd.prog 4 #[.int .i32 a, .int .i32 b] w fun e w' => e = .returned (.bool true) ∧ Touch [] w w' := by
  have HT := Lib.hid hT
  have HP := Lib.hid hP
  clear hT hP
  go_enter Tryd.func4, Tryd.ntmps4
  go_wp2_with fail
  refine (shown_any _ HT.out HP.out).mono ?_
  rintro _ w1 ⟨rfl, t1⟩
  go_wp2_with fail
  obtain ⟨x, hx⟩ : ∃ x, a / 128 = x := ⟨_, rfl⟩
  obtain ⟨y, hy⟩ : ∃ y, b / 128 = y := ⟨_, rfl⟩
  have x0 : -16777216 ≤ x := by omega
  have x1 : x ≤ 16777216 := by omega
  have y0 : -16777216 ≤ y := by omega
  have y1 : y ≤ 16777216 := by omega
  have hW := whole_is x y (by omega) (by omega)
  have m1 := mul_bound x y (by omega) (by omega)
  rw [hx, hy]
  clear hx hy
  obtain ⟨h, hh1, hh2, hh3⟩ := hW.half
  have hadd := hW.add
  have hsub := hW.sub
  have hless := hW.less
  have hequal := hW.equal
  have hmul := hW.mul
  clear hW
  have mb0 : -281474976710656 ≤ x * y := by omega
  have mb1 : x * y ≤ 281474976710656 := by omega
  clear m1
  have s1 : wrap64 (x + y) = x + y := by unfold wrap64; omega
  have s2 : wrap64 (x - y) = x - y := by unfold wrap64; omega
  have s3 : wrap64 (x * y) = x * y := by unfold wrap64; omega
  have s4 : IntKind.i64.wrap (x + y) = x + y := by rw [IntKind.wrap_i64]; omega
  have s5 : IntKind.i64.wrap (x - y) = x - y := by rw [IntKind.wrap_i64]; omega
  have s6 : IntKind.i64.wrap (x * y) = x * y := by rw [IntKind.wrap_i64]; omega
  refine (hadd _).mono ?_
  rintro _ w2 ⟨rfl, t2⟩
  have t3 := t1.trans t2 (by simp)
  clear t1 t2
  go_wp2_with fail
  refine (of_whole _ _).mono ?_
  rintro _ _ ⟨rfl, rfl⟩
  go_wp2_with fail
  refine (hsub _).mono ?_
  rintro _ w4 ⟨rfl, t4⟩
  have t5 := t3.trans t4 (by simp)
  clear t3 t4
  go_wp2_with fail
  refine (of_whole _ _).mono ?_
  rintro _ _ ⟨rfl, rfl⟩
  have hcase : x = 0 ∨ (x ≠ 0 ∧ y = 0) ∨ (x ≠ 0 ∧ y ≠ 0) := by omega
  rcases hcase with hx | ⟨hx, hy⟩ | ⟨hx, hy⟩
  case' inr.inr =>
    have hm := hmul hx hy
    clear hmul
    go_wp2_with fail
    refine (hm _).mono ?_
    rintro _ w6 ⟨rfl, t6⟩
    have t7 := t5.trans t6 (by simp)
    clear t5 t6 hm
    go_wp2_with fail
    refine (of_whole _ _).mono ?_
    rintro _ _ ⟨rfl, rfl⟩
    go_wp2_with fail
  case' inl =>
    have t7 := t5
    clear t5 hmul
    subst hx
    go_wp2_with fail
  case' inr.inl =>
    have t7 := t5
    clear t5 hmul
    subst hy
    go_wp2_with fail
  all_goals
    clear mb0 mb1 s1 s2 s3 s4 s5 s6
    refine (hless _).mono ?_
    rintro _ w8 ⟨rfl, t8⟩
    have t9 := t7.trans t8 (by simp)
    clear t7 t8
    go_wp2_with fail
    refine (lawTruth_any _ _).mono ?_
    rintro _ _ ⟨rfl, rfl⟩
    go_wp2_with fail
    refine (hequal _).mono ?_
    rintro _ w10 ⟨rfl, t10⟩
    have t11 := t9.trans t10 (by simp)
    clear t9 t10
    go_wp2_with fail
    refine (lawTruth_any _ _).mono ?_
    rintro _ _ ⟨rfl, rfl⟩
    go_wp2_with fail
    refine (hh1 _).mono ?_
    rintro _ w12 ⟨rfl, t12⟩
    have t13 := t11.trans t12 (by simp)
    clear t11 t12
    go_wp2_with fail
    refine (hh2 _).mono ?_
    rintro _ _ ⟨rfl, rfl⟩
    go_wp2_with fail
    refine (hh3 _).mono ?_
    rintro _ w14 ⟨rfl, t14⟩
    have t15 := t13.trans t14 (by simp)
    clear t13 t14
    go_wp2_with fail
    refine (of_whole _ _).mono ?_
    rintro _ _ ⟨rfl, rfl⟩
    go_wp2_with fail
    go_ret
    exact ⟨rfl, t15⟩

end Go.Proofs.YtibifcchmccknaaDoor
