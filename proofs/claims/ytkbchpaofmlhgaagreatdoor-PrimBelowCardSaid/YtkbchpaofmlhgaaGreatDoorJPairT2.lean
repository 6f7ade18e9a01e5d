import Derived.Test.YtkbchpaofmlhgaaGreatDoorJPairT
import Derived.Test.YtkbchpaofmlhgaaGreatDoorJOpsA
import Derived.StillTailTactics
/- The package pair: comparisons. -/
namespace Go.Proofs.YtkbchpaofmlhgaaGreatDoor
open Go.RowKit

def cmpI (a b : Int) : Int := if a < b then -1 else if b < a then 1 else 0
theorem nanC_any (a : Int) (w : World) : Calls Tryz.prog 237 #[.int .i64 a] w fun e w' => e = .returned (.bool false) ∧ w = w' := by
  go_enter Tryz.func237, Tryz.ntmps237
  go_wp2_with fail
  go_ret
  exact ⟨by simp, rfl⟩
theorem nanU_any (a : Int) (w : World) : Calls Tryz.prog 238 #[.int .u64 a] w fun e w' => e = .returned (.bool false) ∧ w = w' := by
  go_enter Tryz.func238, Tryz.ntmps238
  go_wp2_with fail
  go_ret
  exact ⟨by simp, rfl⟩
theorem cmpC_any (a b : Int) (w : World) : Calls Tryz.prog 215 #[.int .i64 a, .int .i64 b] w fun e w' => e = .returned (.int .i64 (cmpI a b)) ∧ w = w' := by
  have hN := fun a w => nanC_any a w
  unfold cmpI
  by_cases h1 : a < b
  · rw [if_pos h1]
    go_enter Tryz.func215, Tryz.ntmps215
    go_wp2_with fail
    refine (hN _ _).mono ?_
    rintro _ _ ⟨rfl, rfl⟩
    go_wp2_with fail
    refine (hN _ _).mono ?_
    rintro _ _ ⟨rfl, rfl⟩
    go_wp2_with fail
    go_ret
    exact ⟨rfl, rfl⟩
  · rw [if_neg h1]
    by_cases h2 : b < a
    · rw [if_pos h2]
      go_enter Tryz.func215, Tryz.ntmps215
      go_wp2_with fail
      refine (hN _ _).mono ?_
      rintro _ _ ⟨rfl, rfl⟩
      go_wp2_with fail
      refine (hN _ _).mono ?_
      rintro _ _ ⟨rfl, rfl⟩
      go_wp2_with fail
      go_ret
      exact ⟨rfl, rfl⟩
    · rw [if_neg h2]
      go_enter Tryz.func215, Tryz.ntmps215
      go_wp2_with fail
      refine (hN _ _).mono ?_
      rintro _ _ ⟨rfl, rfl⟩
      go_wp2_with fail
      refine (hN _ _).mono ?_
      rintro _ _ ⟨rfl, rfl⟩
      go_wp2_with fail
      go_ret
      exact ⟨rfl, rfl⟩
theorem cmpU_any (a b : Int) (w : World) : Calls Tryz.prog 216 #[.int .u64 a, .int .u64 b] w fun e w' => e = .returned (.int .i64 (cmpI a b)) ∧ w = w' := by
  have hN := fun a w => nanU_any a w
  unfold cmpI
  by_cases h1 : a < b
  · rw [if_pos h1]
    go_enter Tryz.func216, Tryz.ntmps216
    go_wp2_with fail
    refine (hN _ _).mono ?_
    rintro _ _ ⟨rfl, rfl⟩
    go_wp2_with fail
    refine (hN _ _).mono ?_
    rintro _ _ ⟨rfl, rfl⟩
    go_wp2_with fail
    go_ret
    exact ⟨rfl, rfl⟩
  · rw [if_neg h1]
    by_cases h2 : b < a
    · rw [if_pos h2]
      go_enter Tryz.func216, Tryz.ntmps216
      go_wp2_with fail
      refine (hN _ _).mono ?_
      rintro _ _ ⟨rfl, rfl⟩
      go_wp2_with fail
      refine (hN _ _).mono ?_
      rintro _ _ ⟨rfl, rfl⟩
      go_wp2_with fail
      go_ret
      exact ⟨rfl, rfl⟩
    · rw [if_neg h2]
      go_enter Tryz.func216, Tryz.ntmps216
      go_wp2_with fail
      refine (hN _ _).mono ?_
      rintro _ _ ⟨rfl, rfl⟩
      go_wp2_with fail
      refine (hN _ _).mono ?_
      rintro _ _ ⟨rfl, rfl⟩
      go_wp2_with fail
      go_ret
      exact ⟨rfl, rfl⟩
def orI (x y : Int) : Int := if x = 0 then y else x
theorem Or_two (g : Nat) (x y : Int) (w : World) (c0 : w.cell? ⟨g, 0, none⟩ = some (.int .i64 x)) (c1 : w.cell? ⟨g, 1, none⟩ = some (.int .i64 y)) :
    Calls Tryz.prog 214 #[.slice (some ⟨g, 0, none⟩) 2 2] w fun e w' => e = .returned (.int .i64 (orI x y)) ∧ w = w' := by
  obtain ⟨z, hz⟩ : ∃ z, orI x y = z := ⟨_, rfl⟩
  rw [hz]
  have HZ := Lib.hid hz
  clear hz
  go_enter Tryz.func214, Tryz.ntmps214
  go_wp2_with fail
  go_loopw [5, 8] (fun _ i wr => w = wr ∧ (i = .int .i64 0 ∨ (i = .int .i64 1 ∧ x = 0) ∨ (i = .int .i64 2 ∧ x = 0 ∧ y = 0))) (fun _ i _ => 3 - (intOf i).toNat)
  case atStart => exact ⟨rfl, .inl rfl⟩
  case round =>
    obtain ⟨rfl, hrel⟩ := hrel
    rcases hrel with rfl | ⟨rfl, hx⟩ | ⟨rfl, hx, hy⟩
    · by_cases hx : x = 0
      · subst hx
        go_wp2_with fail
        exact ⟨⟨trivial, by simp⟩, by decide⟩
      · have h2 : (x != 0) = true := by simpa using hx
        have e : Hid (x = z) := by
          rw [← HZ.out]
          show x = orI x y
          unfold orI
          rw [if_neg hx]
        clear HZ
        go_wp2_with fail
        go_ret
        exact ⟨by rw [← e.out]; rfl, rfl⟩
    · subst hx
      have e : Hid (y = z) := by
        rw [← HZ.out]
        show y = orI 0 y
        unfold orI
        rw [if_pos rfl]
      clear HZ
      by_cases hy : y = 0
      · subst hy
        go_wp2_with fail
        exact ⟨⟨trivial, by simp⟩, by decide⟩
      · have h2 : (y != 0) = true := by simpa using hy
        go_wp2_with fail
        go_ret
        exact ⟨by rw [← e.out]; rfl, rfl⟩
    · subst hx hy
      have e : Hid (0 = z) := by
        rw [← HZ.out]
        rfl
      clear HZ
      go_wp2_with fail
      go_ret
      exact ⟨by rw [← e.out]; rfl, rfl⟩
theorem still_left {P : Program} {f : FuncId} {args : Array Value} {w : World} {v : Value} (h : Calls P f args w fun e w' => e = .returned v ∧ w = w') : Calls P f args w fun e w'' => e = .returned v ∧ w'' = w :=
  h.mono fun _ _ ⟨e, h⟩ => ⟨e, h.symm⟩
/-- is a pair below another one? -/
def lessP (p q : Int × Int) : Bool := decide (orI (cmpI p.2 q.2) (cmpI (IntKind.u64.wrap p.1) (IntKind.u64.wrap q.1)) < 0)
set_option maxRecDepth 100000 in
set_option maxHeartbeats 4000000 in
theorem Less_any (p q : Int × Int) (w : World) : Calls Tryz.prog 123 #[pairW p, pairW q] w fun e w' => e = .returned (.bool (lessP p q)) ∧ Touch [] w w' := by
  obtain ⟨a, b⟩ := p
  obtain ⟨c, d⟩ := q
  unfold lessP
  simp only []
  have hC := fun w => cmpC_any b d w
  have hU := fun w => cmpU_any (IntKind.u64.wrap a) (IntKind.u64.wrap c) w
  obtain ⟨x, hx⟩ : ∃ x, cmpI b d = x := ⟨_, rfl⟩
  obtain ⟨y, hy⟩ : ∃ x, cmpI (IntKind.u64.wrap a) (IntKind.u64.wrap c) = x := ⟨_, rfl⟩
  rw [hx] at hC ⊢
  rw [hy] at hU ⊢
  clear hx hy
  have hO := fun g w h1 h2 => Or_two g x y w h1 h2
  obtain ⟨z, hz⟩ : ∃ z, orI x y = z := ⟨_, rfl⟩
  rw [hz] at hO ⊢
  clear hz
  unfold pairW
  have b1 := ((Blk.new w 38 #[.int .i64 a, .int .i64 b]).alloc (.cells #[.int .i64 c, .int .i64 d] 38)).drew
  have b2 := (Blk.new_at (n := w.heap.size + 1) (w.alloc (.cells #[.int .i64 a, .int .i64 b] 38)) (by simp) 38 #[.int .i64 c, .int .i64 d]).drew
  have x1 := b1.cell 0
  have x2 := b1.cell 1
  have y1 := b2.cell 0
  have y2 := b2.cell 1
  have T0 := ((Touch.refl [] w).alloc (.cells #[.int .i64 a, .int .i64 b] 38)).alloc (.cells #[.int .i64 c, .int .i64 d] 38)
  clear b1 b2
  go_enter Tryz.func123, Tryz.ntmps123
  go_upto_region 1 with fail
  generalize (w.alloc (.cells #[.int .i64 a, .int .i64 b] 38)).alloc (.cells #[.int .i64 c, .int .i64 d] 38) = W2 at *
  have b3 := Blk.new W2.drew 3 #[.int .i64 x, .int .i64 y]
  have z1 := b3.cell 0
  have z2 := b3.cell 1
  have hO := hO _ _ z1 z2
  have T := Lib.hid (T0.drew.alloc (.cells #[.int .i64 x, .int .i64 y] 3))
  clear T0 z1 z2 b3
  go_still_tail 12, (by kernel_rfl)
  still_call (still_left (hC _))
  repeat still_step
  still_call (still_left (hU _))
  repeat still_step
  refine wpStill_nil ?_
  change wpList _ _ _ _ _ W2.drew
  go_wp2_with (go_at_call 214; refine hO.mono ?_; rintro _ _ ⟨rfl, rfl⟩)
  go_ret
  exact ⟨rfl, T.out⟩
def ulessP (p q : Int × Int) : Bool := lessP (p.1, bits .xor .i64 p.2 (-9223372036854775808)) (q.1, bits .xor .i64 q.2 (-9223372036854775808))
set_option maxHeartbeats 1000000 in
theorem ULess_any (p q : Int × Int) (w : World) : Calls Tryz.prog 125 #[pairW p, pairW q] w fun e w' => e = .returned (.bool (ulessP p q)) ∧ Touch [] w w' := by
  obtain ⟨a, b⟩ := p
  obtain ⟨c, d⟩ := q
  unfold ulessP
  simp only []
  have hL := fun w => Less_any (a, bits .xor .i64 b (-9223372036854775808)) (c, bits .xor .i64 d (-9223372036854775808)) w
  obtain ⟨z, hz⟩ : ∃ z, lessP (a, bits .xor .i64 b (-9223372036854775808)) (c, bits .xor .i64 d (-9223372036854775808)) = z := ⟨_, rfl⟩
  rw [hz] at hL ⊢
  clear hz
  unfold pairW at hL ⊢
  go_enter Tryz.func125, Tryz.ntmps125
  go_wp2_with fail
  refine (hL _).mono ?_
  rintro _ w1 ⟨rfl, t1⟩
  have T := Lib.hid (((Touch.refl [] w).alloc _).alloc _ |>.trans t1 (by simp))
  clear t1 hL
  go_wp2_with fail
  go_ret
  exact ⟨rfl, T.out⟩
end Go.Proofs.YtkbchpaofmlhgaaGreatDoor
