import Derived.Test.YtkbchpaofmlhgaaGreatDoorJCellOps
import Derived.Test.YtkbchpaofmlhgaaGreatDoorJRlX
/- prim's operations of real numbers, each at any cells. -/
namespace Go.Proofs.YtkbchpaofmlhgaaGreatDoor
open Go.RowKit

/-- what is done to one, to two -/
def oneRl (k a : Int) : Int := if k = 1 then Rl.madeOf (Rl.negOf (bitsOf a)) else Rl.madeOf (Fl.rg (bitsOf a))
def twoRl (k a b : Int) : Int :=
  if k = 3 then Rl.resOf (floatBits .add .f64 (bitsOf a) (bitsOf b))
  else if k = 4 then Rl.resOf (floatBits .sub .f64 (bitsOf a) (bitsOf b))
  else if k = 5 then Rl.resOf (floatBits .mul .f64 (bitsOf a) (bitsOf b))
  else if k = 6 then Rl.resOf (floatBits .quo .f64 (bitsOf a) (bitsOf b))
  else if k = 7 then Rl.resOf (Rl.minOf (bitsOf a) (bitsOf b))
  else if k = 8 then Rl.resOf (Rl.maxOf (bitsOf a) (bitsOf b))
  else if k = 9 then Rl.truthC (Ieee.double.order (bitsOf a) (bitsOf b) == some .lt)
  else Rl.truthC (Ieee.double.order (bitsOf a) (bitsOf b) == some .eq)
theorem oneRl_any (k a : Int) (h : k = 1 ∨ k = 2) (w : World) : Calls Tryz.prog 79 #[.int .i64 k, .int .i64 a] w fun e w' => e = .returned (.tuple #[.int .i64 (oneRl k a), .int .i64 0]) ∧ w = w' := by
  rcases h with rfl | rfl
  · exact Rl.one_neg a w
  · exact Rl.one_abs a w
theorem twoRl_any (k a b : Int) (h : 3 ≤ k ∧ k ≤ 10) (w : World) : Calls Tryz.prog 81 #[.int .i64 k, .int .i64 a, .int .i64 b] w fun e w' => e = .returned (.tuple #[.int .i64 (twoRl k a b), .int .i64 0]) ∧ Touch [] w w' := by
  rcases (by omega : k = 3 ∨ k = 4 ∨ k = 5 ∨ k = 6 ∨ k = 7 ∨ k = 8 ∨ k = 9 ∨ k = 10) with rfl | rfl | rfl | rfl | rfl | rfl | rfl | rfl
  · exact Rl.two_add a b w
  · exact Rl.two_sub a b w
  · exact Rl.two_mul a b w
  · exact Rl.two_div a b w
  · exact Rl.two_min a b w
  · exact Rl.two_max a b w
  · refine (Rl.two_less a b w).mono ?_
    rintro _ _ ⟨rfl, rfl⟩
    exact ⟨rfl, Touch.refl _ _⟩
  · refine (Rl.two_equal a b w).mono ?_
    rintro _ _ ⟨rfl, rfl⟩
    exact ⟨rfl, Touch.refl _ _⟩
set_option maxHeartbeats 1000000 in
theorem real1_sem (op : Int) (h : op = 61 ∨ op = 62) : OpSemC op 1 (fun _ _ => True) (fun l S => (([oneRl (op - 60) (l.getD 0 0)], 0), S)) := by
  intro W B s F S t f first cap l lv hok hS hF hfd
  obtain ⟨b, C, hC, hb, hA, hB⟩ := hfd
  have harm : armOf op = (1, 78) := by
    have hm : manyF op = 0 := many_none op (by omega)
    unfold armOf
    rw [if_neg (by omega), if_neg (by omega), if_pos h]
  rw [harm] at hA
  obtain ⟨g, _, hg, rfl, rfl, rfl, rfl⟩ := act_open hA (Nat.zero_le _)
  refine ⟨rfl, enters_of Tryz.func94 (by kernel_rfl) rfl, fun hl hpre hc => ActDone.post (may_clo hg (enters_of Tryz.func78 (by kernel_rfl) rfl) ?_)⟩
  obtain ⟨ad, c, q, e, rfl, cq⟩ := hc.one hl
  subst e
  show Calls Tryz.prog _ _ W fun e w' => e = .returned (.tuple #[.int .i64 (oneRl (op - 60) q), .int .i64 0]) ∧ Done W s F S S w'
  have hO := fun w => oneRl_any (op - 60) q (by omega) w
  obtain ⟨r, hr⟩ : ∃ r, oneRl (op - 60) q = r := ⟨_, rfl⟩
  rw [hr] at hO ⊢
  have b0 := (hB.touch ((Touch.refl [] W).drew) (by simp)).cell 0
  have x0 := cell_quiet ((Touch.refl [] W).drew) cq
  have e1 : IntKind.i64.wrap (op - 61) = op - 61 := by rw [IntKind.wrap_i64]; omega
  have e2 : IntKind.i64.wrap (op - 61 + 1) = op - 60 := by rw [IntKind.wrap_i64]; omega
  have HD := Lib.hid (Done.self hS ((Touch.refl [] W).drew))
  clear hS hB hA hg hF hc cq hr harm h hl hpre hok
  obtain ⟨k, hk⟩ : ∃ k, op - 60 = k := ⟨_, rfl⟩
  obtain ⟨k1, hk1⟩ : ∃ k, op - 61 = k := ⟨_, rfl⟩
  rw [hk] at hO e2
  rw [hk1] at e1 e2
  show Calls Tryz.prog 78 #[.slice (some ⟨ad, 0, none⟩) 1 c, .pointer (some ⟨b, 0, none⟩)] W _
  go_enter Tryz.func78, Tryz.ntmps78
  go_upto_region 1 with fail
  go_region_with (go_at_call 79; refine (hO _).mono ?_; rintro _ _ ⟨rfl, rfl⟩)
  all_goals go_wp2_with fail
  all_goals go_ret2
  all_goals exact ⟨rfl, HD.out⟩
set_option maxRecDepth 100000 in
set_option maxHeartbeats 1000000 in
theorem real2_sem (op : Int) (h : 63 ≤ op ∧ op ≤ 70) : OpSemC op 2 (fun _ _ => True) (fun l S => (([twoRl (op - 60) (l.getD 0 0) (l.getD 1 0)], 0), S)) := by
  intro W B s F S t f first cap l lv hok hS hF hfd
  obtain ⟨b, C, hC, hb, hA, hB⟩ := hfd
  have harm : armOf op = (2, 80) := by
    have hm : manyF op = 0 := many_none op (by omega)
    unfold armOf
    rw [if_neg (by omega), if_neg (by omega), if_neg (by omega)]
  rw [harm] at hA
  obtain ⟨g, _, hg, rfl, rfl, rfl, rfl⟩ := act_open hA (Nat.zero_le _)
  refine ⟨rfl, enters_of Tryz.func94 (by kernel_rfl) rfl, fun hl hpre hc => ActDone.post (may_clo hg (enters_of Tryz.func80 (by kernel_rfl) rfl) ?_)⟩
  obtain ⟨ad, c, q, q1, e, rfl, cq, cq1⟩ := hc.two hl
  subst e
  show Calls Tryz.prog _ _ W fun e w' => e = .returned (.tuple #[.int .i64 (twoRl (op - 60) q q1), .int .i64 0]) ∧ Done W s F S S w'
  have hO := fun w => twoRl_any (op - 60) q q1 (by omega) w
  obtain ⟨r, hr⟩ : ∃ r, twoRl (op - 60) q q1 = r := ⟨_, rfl⟩
  rw [hr] at hO ⊢
  have b0 := (hB.touch ((Touch.refl [] W).drew) (by simp)).cell 0
  have x0 := cell_quiet ((Touch.refl [] W).drew) cq
  have x1 := cell_quiet ((Touch.refl [] W).drew) cq1
  have e1 : IntKind.i64.wrap (op - 61) = op - 61 := by rw [IntKind.wrap_i64]; omega
  have e2 : IntKind.i64.wrap (op - 61 + 1) = op - 60 := by rw [IntKind.wrap_i64]; omega
  have HS := Lib.hid hS
  clear hS hB hA hg hF hc cq cq1 hr harm h hl hpre hok
  obtain ⟨k, hk⟩ : ∃ k, op - 60 = k := ⟨_, rfl⟩
  obtain ⟨k1, hk1⟩ : ∃ k, op - 61 = k := ⟨_, rfl⟩
  rw [hk] at hO e2
  rw [hk1] at e1 e2
  show Calls Tryz.prog 80 #[.slice (some ⟨ad, 0, none⟩) 2 c, .pointer (some ⟨b, 0, none⟩)] W _
  go_enter Tryz.func80, Tryz.ntmps80
  go_upto_region 1 with fail
  go_region_with (go_at_call 81; refine (hO _).mono ?_; rintro _ w1 ⟨rfl, t1⟩; have HD : Hid (Done W s F S S w1) := Done.self HS.out t1.of_drew; clear t1)
  all_goals go_wp2_with fail
  all_goals go_ret2
  all_goals exact ⟨rfl, HD.out⟩
end Go.Proofs.YtkbchpaofmlhgaaGreatDoor
