/- The contract of cell.Two. -/
import Derived.Test.YtkbchpaofmlhgaaGreatDoorCell2
import Derived.Shelf.Abstract
namespace Go.Proofs.YtkbchpaofmlhgaaGreatDoor
open Go.RowKit

theorem fn_enters (op : Nat) (h : 11 ≤ op ∧ op ≤ 27) : Enters Tryz.prog (fnOf op) := by
  rcases (by omega : op = 11 ∨ op = 12 ∨ op = 13 ∨ op = 14 ∨ op = 15 ∨ op = 16 ∨ op = 17 ∨ op = 18 ∨ op = 19 ∨ op = 20 ∨ op = 21 ∨ op = 22 ∨ op = 23 ∨ op = 24 ∨ op = 25 ∨ op = 26 ∨ op = 27) with rfl | rfl | rfl | rfl | rfl | rfl | rfl | rfl | rfl | rfl | rfl | rfl | rfl | rfl | rfl | rfl | rfl
  · exact enters_of Tryz.func187 (by kernel_rfl) rfl
  · exact enters_of Tryz.func188 (by kernel_rfl) rfl
  · exact enters_of Tryz.func189 (by kernel_rfl) rfl
  · exact enters_of Tryz.func190 (by kernel_rfl) rfl
  · exact enters_of Tryz.func192 (by kernel_rfl) rfl
  · exact enters_of Tryz.func193 (by kernel_rfl) rfl
  · exact enters_of Tryz.func194 (by kernel_rfl) rfl
  · exact enters_of Tryz.func195 (by kernel_rfl) rfl
  · exact enters_of Tryz.func196 (by kernel_rfl) rfl
  · exact enters_of Tryz.func197 (by kernel_rfl) rfl
  · exact enters_of Tryz.func198 (by kernel_rfl) rfl
  · exact enters_of Tryz.func199 (by kernel_rfl) rfl
  · exact enters_of Tryz.func200 (by kernel_rfl) rfl
  · exact enters_of Tryz.func201 (by kernel_rfl) rfl
  · exact enters_of Tryz.func202 (by kernel_rfl) rfl
  · exact enters_of Tryz.func203 (by kernel_rfl) rfl
  · exact enters_of Tryz.func204 (by kernel_rfl) rfl

set_option maxHeartbeats 1000000 in
theorem Two_ok (op : Nat) (h : 11 ≤ op ∧ op ≤ 27) (a b : Int) (hb : ¬ (b = 0 ∧ (op = 14 ∨ op = 15))) (w : World) :
    Calls Tryz.prog 77 #[.int .i64 op, .int .i64 a, .int .i64 b] w fun e w' => e = .returned (.tuple #[.int .i64 (twoF op a b), .int .i64 0]) ∧ Touch [] w w' := by
  have hf := fun w => fn_does op h a b hb w
  have hat := does_at op h
  have hent : ∀ (args : Array Value) (w : World), (callFunc (fnOf op) args).run Tryz.prog w = .ok (.enter (fnOf op) args) w := fn_enters op h
  unfold Does2 at hf
  unfold fv at hat
  generalize fnOf op = f at hf hat hent
  generalize twoF op a b = r at hf ⊢
  have hD := does_any w
  obtain ⟨z, hz⟩ : ∃ z : Int, (op : Int) = z := ⟨_, rfl⟩
  have hbz : ¬ (b = 0 ∧ (z = 14 ∨ z = 15)) := by omega
  rw [hz] at hat ⊢
  clear hz h hb
  by_cases hb0 : b = 0
  · have z14 : ¬ z = 14 := by omega
    have z15 : ¬ z = 15 := by omega
    clear hbz
    subst hb0
    go_enter Tryz.func77, Tryz.ntmps77
    go_wp2_with fail
    refine hD.mono ?_
    rintro _ w1 ⟨m, rfl, hm, t1⟩
    have hlk := (hm.lookup Tryz.underlying138 Tryz.underlying3 hat).2
    clear hm hat hD
    have z14' : (z == 14) = false := by simp [z14]
    have z15' : (z == 15) = false := by simp [z15]
    go_wp2_with fail
    refine (hf _).mono ?_
    rintro _ w2 ⟨rfl, t2⟩
    go_wp2
    go_ret2
    exact ⟨rfl, t1.trans t2 (by simp)⟩
  · clear hbz
    go_enter Tryz.func77, Tryz.ntmps77
    go_wp2_with fail
    refine hD.mono ?_
    rintro _ w1 ⟨m, rfl, hm, t1⟩
    have hlk := (hm.lookup Tryz.underlying138 Tryz.underlying3 hat).2
    clear hm hat hD
    go_wp2_with fail
    refine (hf _).mono ?_
    rintro _ w2 ⟨rfl, t2⟩
    go_wp2
    go_ret2
    exact ⟨rfl, t1.trans t2 (by simp)⟩

theorem Two_zero (op : Nat) (h : op = 14 ∨ op = 15) (a : Int) (w : World) :
    Calls Tryz.prog 77 #[.int .i64 op, .int .i64 a, .int .i64 0] w fun e w' => e = .returned (.tuple #[.int .i64 0, .int .i64 (-10)]) ∧ Touch [] w w' := by
  have hat := does_at op (by omega)
  unfold fv at hat
  generalize fnOf op = f at hat
  have hD := does_any w
  obtain ⟨z, hz⟩ : ∃ z : Int, (op : Int) = z := ⟨_, rfl⟩
  have hz2 : z = 14 ∨ z = 15 := by omega
  rw [hz] at hat ⊢
  clear hz h
  rcases hz2 with rfl | rfl
  all_goals go_enter Tryz.func77, Tryz.ntmps77
  all_goals go_wp2_with fail
  all_goals refine hD.mono ?_
  all_goals rintro _ w1 ⟨m, rfl, hm, t1⟩
  all_goals have hlk := (hm.lookup Tryz.underlying138 Tryz.underlying3 hat).2
  all_goals clear hm hat hD
  all_goals go_wp2_with fail
  all_goals go_ret2
  all_goals exact ⟨rfl, t1⟩
end Go.Proofs.YtkbchpaofmlhgaaGreatDoor
