import Derived.Test.YtkbchpaofmlhgaaGreatDoorJRlB
/- The contracts of package real: less a number, To of any cell. -/
namespace Go.Proofs.YtkbchpaofmlhgaaGreatDoor.Rl
open Go.RowKit

theorem one_neg (a : Int) (w : World) : Calls Tryz.prog 79 #[.int .i64 1, .int .i64 a] w fun e w' => e = .returned (.tuple #[.int .i64 (madeOf (negOf (bitsOf a))), .int .i64 0]) ∧ w = w' := by
  have hen := fun W => neg_run (P := Tryz.prog) W (bitsOf a)
  rw [negFloat_eq _ (bitsOf_lt a)] at hen
  go_enter Tryz.func79, Tryz.ntmps79
  go_wp2_with fail
  refine (number_any a _).mono ?_
  rintro _ _ ⟨rfl, rfl⟩
  go_wp2_with fail
  refine (made_any _ (neg_lt _ (bitsOf_lt a)) _).mono ?_
  rintro _ _ ⟨rfl, rfl⟩
  go_wp2_with fail
  go_ret2
  exact ⟨rfl, rfl⟩
theorem floor_inf (x : Nat) (h : Fl.rg x = 9218868437227405312) (hx : x < 18446744073709551616) (w : World) : Calls Tryz.prog 219 #[.float .f64 x] w fun e w' => e = .returned (.float .f64 x) ∧ w = w' := by
  refine floor_any x x w w ?_
  rw [run_callFunc_extern Tryz.func240 (by kernel_rfl) (by kernel_rfl) (by kernel_rfl) (e := Extern.MathFloor.toIntegral "math.archFloor" .down) (by kernel_rfl)]
  have e : FloatKind.f64.decode x = .infinity (Fl.sg x) := Fl.read_inf h
  obtain ⟨F, hF⟩ : ∃ F : Bool → Nat → Sem Value, Extern.MathFloor.toIntegral "math.archFloor" .down #[.float .f64 x] = (match FloatKind.f64.decode x with
    | .nan s t => F s t
    | d => pure (.float .f64 (FloatKind.f64.encode (d.integral .down)))) := ⟨_, rfl⟩
  rw [hF, e]
  have hc : x = 9218868437227405312 ∨ x = 18442240474082181120 := by unfold Fl.rg at h; omega
  rcases hc with rfl | rfl <;> rfl
theorem floor_nan (x : Nat) (h : 9218868437227405312 < Fl.rg x) (w : World) : Calls Tryz.prog 219 #[.float .f64 x] w fun e w' => ∃ v, e = .returned (.float .f64 v) ∧ nanB v ∧ Touch [] w w' := by
  have key : ∃ v w1, (callFunc 240 #[.float .f64 x]).run Tryz.prog w = .ok (.value (.float .f64 v)) w1 ∧ nanB v ∧ Touch [] w w1 := by
    rw [run_callFunc_extern Tryz.func240 (by kernel_rfl) (by kernel_rfl) (by kernel_rfl) (e := Extern.MathFloor.toIntegral "math.archFloor" .down) (by kernel_rfl)]
    have e : FloatKind.f64.decode x = .nan (Fl.sg x) (Fl.rg x - 9218868437227405312) := Fl.read_nan h
    have hF : Extern.MathFloor.toIntegral "math.archFloor" .down #[.float .f64 x] = (match FloatKind.f64.decode x with
      | .nan s t => (if FloatKind.f64.format.quiet t = t then pure (.float .f64 x) else do
          let kept ← choose (.extern "math.Floor,Ceil,Trunc,RoundToEven.signallingNaN kept" 2)
          pure (.float .f64 (if kept == 1 then x else FloatKind.f64.encode (.nan s (FloatKind.f64.format.quiet t)))))
      | d => pure (.float .f64 (FloatKind.f64.encode (d.integral .down)))) := rfl
    rw [hF, e]
    dsimp only
    by_cases hq : FloatKind.f64.format.quiet (Fl.rg x - 9218868437227405312) = Fl.rg x - 9218868437227405312
    · rw [if_pos hq]
      exact ⟨x, w, rfl, h, Touch.refl _ _⟩
    · rw [if_neg hq]
      refine ⟨if (Question.extern "math.Floor,Ceil,Trunc,RoundToEven.signallingNaN kept" 2).cut (w.tape w.drawn (.extern "math.Floor,Ceil,Trunc,RoundToEven.signallingNaN kept" 2)) == 1 then x else FloatKind.f64.encode (.nan (Fl.sg x) (FloatKind.f64.format.quiet (Fl.rg x - 9218868437227405312))), w.drew, rfl, ?_, (Touch.refl _ _).drew⟩
      split
      · exact h
      · have ht0 : Fl.rg x - 9218868437227405312 < 4503599627370496 := by unfold Fl.rg; omega
        have hq2 : FloatKind.f64.format.quiet (Fl.rg x - 9218868437227405312) < 4503599627370496 := Nat.or_lt_two_pow (n := 52) ht0 (by decide)
        have hq3 : 0 < FloatKind.f64.format.quiet (Fl.rg x - 9218868437227405312) := Nat.lt_of_lt_of_le (by decide : 0 < 2 ^ 51) (Nat.right_le_or)
        generalize FloatKind.f64.format.quiet (Fl.rg x - 9218868437227405312) = t at *
        show 9218868437227405312 < Fl.rg (Ieee.double.word (Fl.sg x) (Ieee.double.infRung + t % Ieee.double.binade))
        unfold Fl.rg Ieee.Format.word
        rw [Fl.c_sign, Fl.c_inf, Fl.c_binade]
        split <;> omega
  obtain ⟨v, w1, h1, h2, h3⟩ := key
  refine (floor_any x v w w1 h1).mono ?_
  rintro _ _ ⟨rfl, rfl⟩
  exact ⟨v, rfl, h2, h3⟩
/-- what To tells of any cell -/
def toR (a : Int) : Int × Int := if Fl.rg (bitsOf a) < 9218868437227405312 ∧ -9223372036854775808 ≤ cutOf (bitsOf a) ∧ cutOf (bitsOf a) < 9223372036854775808 then (cutOf (bitsOf a), 0) else (0, -43)
set_option maxHeartbeats 1000000 in
theorem to_any (a : Int) (w : World) : Calls Tryz.prog 138 #[.int .i64 a] w fun e w' => e = .returned (.tuple #[.int .i64 (toR a).1, .int .i64 (toR a).2]) ∧ Touch [] w w' := by
  by_cases hf : Fl.rg (bitsOf a) < 9218868437227405312
  · refine (to_fin a hf w).mono ?_
    rintro _ _ ⟨rfl, rfl⟩
    refine ⟨?_, Touch.refl _ _⟩
    unfold toOf toR
    by_cases hr : -9223372036854775808 ≤ cutOf (bitsOf a) ∧ cutOf (bitsOf a) < 9223372036854775808
    · rw [if_pos hr, if_pos ⟨hf, hr⟩]
    · rw [if_neg hr, if_neg (fun h => hr h.2)]
  · have e : toR a = (0, -43) := by unfold toR; rw [if_neg (fun h => hf h.1)]
    rw [e]
    clear e
    have hN := number_any a
    obtain ⟨x, hx⟩ : ∃ x, bitsOf a = x := ⟨_, rfl⟩
    have hlt : x < 18446744073709551616 := by rw [← hx]; exact bitsOf_lt a
    rw [hx] at hN hf
    clear hx
    by_cases hi : Fl.rg x = 9218868437227405312
    · have hc : x = 9218868437227405312 ∨ x = 18442240474082181120 := by unfold Fl.rg at hi; omega
      clear hf hi hlt
      rcases hc with rfl | rfl
      · have hFl := fun w => floor_inf 9218868437227405312 (by decide) (by decide) w
        have o1 : (FloatKind.f64.format.order 9218868437227405312 0 == some .lt) = false := by decide +kernel
        have o2 : (FloatKind.f64.format.order 9218868437227405312 14114281232179134464 == some .gt || FloatKind.f64.format.order 9218868437227405312 14114281232179134464 == some .eq) = true := by decide +kernel
        have o3 : (FloatKind.f64.format.order 9218868437227405312 4890909195324358656 == some .lt) = false := by decide +kernel
        go_enter Tryz.func138, Tryz.ntmps138
        go_wp2_with fail
        refine (hN _).mono ?_
        rintro _ _ ⟨rfl, rfl⟩
        go_wp2_with fail
        refine (hFl _).mono ?_
        rintro _ _ ⟨rfl, rfl⟩
        go_wp2_with fail
        go_ret2
        exact ⟨rfl, Touch.refl _ _⟩
      · have hFl := fun w => floor_inf 9218868437227405312 (by decide) (by decide) w
        have o1 : (FloatKind.f64.format.order 18442240474082181120 0 == some .lt) = true := by decide +kernel
        have o2 : (FloatKind.f64.format.order 18442240474082181120 14114281232179134464 == some .gt || FloatKind.f64.format.order 18442240474082181120 14114281232179134464 == some .eq) = false := by decide +kernel
        have o3 : (FloatKind.f64.format.order 18442240474082181120 4890909195324358656 == some .lt) = true := by decide +kernel
        have hen := fun W => neg_run (P := Tryz.prog) W 18442240474082181120
        have hen2 := fun W => neg_run (P := Tryz.prog) W 9218868437227405312
        rw [show Op.negFloat .f64 18442240474082181120 = 9218868437227405312 by decide +kernel] at hen
        rw [show Op.negFloat .f64 9218868437227405312 = 18442240474082181120 by decide +kernel] at hen2
        go_enter Tryz.func138, Tryz.ntmps138
        go_wp2_with fail
        refine (hN _).mono ?_
        rintro _ _ ⟨rfl, rfl⟩
        go_wp2_with fail
        refine (hFl _).mono ?_
        rintro _ _ ⟨rfl, rfl⟩
        go_wp2_with fail
        go_ret2
        exact ⟨rfl, Touch.refl _ _⟩
    · have hnan : 9218868437227405312 < Fl.rg x := by omega
      have hFl := fun w => floor_nan x hnan w
      have o1 : (FloatKind.f64.format.order x 0 == some .lt) = false := by
        have : FloatKind.f64.format.order x 0 = none := Fl.order_nan (.inl hnan)
        rw [this]
        rfl
      have hv : ∀ v, nanB v → (FloatKind.f64.format.order v 14114281232179134464 == some .gt || FloatKind.f64.format.order v 14114281232179134464 == some .eq) = false ∧ (FloatKind.f64.format.order v 4890909195324358656 == some .lt) = false := by
        intro v hv
        have h1 : FloatKind.f64.format.order v 14114281232179134464 = none := Fl.order_nan (.inl hv)
        have h2 : FloatKind.f64.format.order v 4890909195324358656 = none := Fl.order_nan (.inl hv)
        rw [h1, h2]
        exact ⟨rfl, rfl⟩
      have HV := Lib.hid hv
      clear hf hi hv
      go_enter Tryz.func138, Tryz.ntmps138
      go_wp2_with fail
      refine (hN _).mono ?_
      rintro _ _ ⟨rfl, rfl⟩
      go_wp2_with fail
      refine (hFl _).mono ?_
      rintro _ w1 ⟨v, rfl, hv, t1⟩
      obtain ⟨o2, o3⟩ := HV.out v hv
      have T1 := Lib.hid t1
      clear t1
      go_wp2_with fail
      go_ret2
      exact ⟨rfl, T1.out⟩
end Go.Proofs.YtkbchpaofmlhgaaGreatDoor.Rl
