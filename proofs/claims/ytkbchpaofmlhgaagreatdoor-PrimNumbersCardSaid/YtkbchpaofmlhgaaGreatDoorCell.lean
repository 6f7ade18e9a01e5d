/- The contracts of package cell: Truth, Many, One. -/
import Derived.Test.YtkbchpaofmlhgaaGreatDoorWorld
import Derived.BigQuiet
import Derived.OpenShut
namespace Go.Proofs.YtkbchpaofmlhgaaGreatDoor
open Go.RowKit

def Cell64 (x : Int) : Prop := -9223372036854775808 ≤ x ∧ x ≤ 9223372036854775807
theorem wrap64_cell (x : Int) : Cell64 (wrap64 x) := by unfold Cell64 wrap64; omega
theorem bitwise_cell (op : BinOp) (x y : Int) : Cell64 (bits op .i64 x y) := bounds_i64 (wf_bits op .i64 x y)
def truthF (b : Bool) : Int := if b then -1 else 0
theorem truthF_cell (b : Bool) : Cell64 (truthF b) := by unfold Cell64 truthF; cases b <;> decide
def manyF (op : Int) : Nat := if 1 ≤ op ∧ op ≤ 10 then 1 else if 11 ≤ op ∧ op ≤ 27 then 2 else 0

theorem Truth_any (b : Bool) (w : World) : Calls Tryz.prog 95 #[.bool b] w fun e w' => e = .returned (.int .i64 (truthF b)) ∧ w = w' := by
  cases b
  all_goals go_enter Tryz.func95, Tryz.ntmps95
  all_goals go_wp2
  all_goals go_ret
  all_goals exact ⟨rfl, rfl⟩

theorem Many_any (op : Int) (w : World) : Calls Tryz.prog 72 #[.int .i64 op] w fun e w' => e = .returned (.int .i64 (manyF op)) ∧ w = w' := by
  have H := Lib.hid (rfl : manyF op = manyF op)
  generalize hn : manyF op = n at H ⊢
  have H2 := Lib.hid hn
  clear hn H
  go_enter Tryz.func72, Tryz.ntmps72
  go_wp2
  all_goals go_ret
  all_goals refine ⟨?_, rfl⟩
  all_goals have h := H2.out
  all_goals unfold manyF at h
  all_goals first | (rw [if_pos (by omega)] at h; subst h; rfl) | (rw [if_neg (by omega), if_pos (by omega)] at h; subst h; rfl) | (rw [if_neg (by omega), if_neg (by omega)] at h; subst h; rfl)

/-- what is done to one cell -/
def oneF (op a : Int) : Int × Int :=
  if op = 1 then (wrap64 (-a), 0)
  else if op = 2 then (if a < 0 then wrap64 (-a) else a, 0)
  else if op = 3 then (bits .xor .i64 (-1) a, 0)
  else if op = 4 then (wrap64 (a + 1), 0)
  else if op = 5 then (wrap64 (a - 1), 0)
  else if op = 6 then (wrap64 (a * 2), 0)
  else if op = 7 then (a / 2, 0)
  else if op = 8 then (truthF (decide (a = 0)), 0)
  else if op = 9 then (truthF (decide (a < 0)), 0)
  else if op = 10 then (truthF (!decide (a = 0)), 0)
  else (0, 1)
theorem oneF_cell (op a : Int) (h : Cell64 a) : Cell64 (oneF op a).1 := by
  have h7 : Cell64 (a / 2) := by unfold Cell64 at *; omega
  have h0 : Cell64 0 := by unfold Cell64; decide
  have h2 : Cell64 (if a < 0 then wrap64 (-a) else a) := by
    by_cases hn : a < 0
    · rw [if_pos hn]; exact wrap64_cell _
    · rw [if_neg hn]; exact h
  have t := truthF_cell
  have wr := wrap64_cell
  have bi := bitwise_cell
  unfold oneF
  generalize (if a < 0 then wrap64 (-a) else a) = x2 at *
  repeat' split
  all_goals simp only []
  all_goals first | assumption | apply wr | apply t | apply bi

def OneSays (op a : Int) (r : Int × Int) (w : World) : Prop :=
  Calls Tryz.prog 75 #[.int .i64 op, .int .i64 a] w fun e w' => e = .returned (.tuple #[.int .i64 r.1, .int .i64 r.2]) ∧ w = w'

theorem One_1 (a : Int) (w : World) : OneSays 1 a (wrap64 (-a), 0) w := by
  unfold OneSays
  go_enter Tryz.func75, Tryz.ntmps75
  go_wp2
  go_ret2
  exact ⟨rfl, rfl⟩
theorem One_3 (a : Int) (w : World) : OneSays 3 a (bits .xor .i64 (-1) a, 0) w := by
  unfold OneSays
  go_enter Tryz.func75, Tryz.ntmps75
  go_wp2
  go_ret2
  exact ⟨rfl, rfl⟩
theorem One_4 (a : Int) (w : World) : OneSays 4 a (wrap64 (a + 1), 0) w := by
  unfold OneSays
  go_enter Tryz.func75, Tryz.ntmps75
  go_wp2
  go_ret2
  exact ⟨rfl, rfl⟩
theorem One_5 (a : Int) (w : World) : OneSays 5 a (wrap64 (a - 1), 0) w := by
  unfold OneSays
  go_enter Tryz.func75, Tryz.ntmps75
  go_wp2
  go_ret2
  exact ⟨rfl, rfl⟩
theorem One_6 (a : Int) (w : World) : OneSays 6 a (wrap64 (a * 2), 0) w := by
  unfold OneSays
  go_enter Tryz.func75, Tryz.ntmps75
  go_wp2
  go_ret2
  exact ⟨rfl, rfl⟩
theorem One_7 (a : Int) (w : World) : OneSays 7 a (a / 2, 0) w := by
  unfold OneSays
  go_enter Tryz.func75, Tryz.ntmps75
  go_wp2
  go_ret2
  exact ⟨rfl, rfl⟩
theorem One_2 (a : Int) (w : World) : OneSays 2 a (if a < 0 then wrap64 (-a) else a, 0) w := by
  unfold OneSays
  by_cases h : a < 0
  · rw [if_pos h]
    go_enter Tryz.func75, Tryz.ntmps75
    go_wp2
    go_ret2
    exact ⟨rfl, rfl⟩
  · rw [if_neg h]
    go_enter Tryz.func75, Tryz.ntmps75
    go_wp2
    go_ret2
    exact ⟨rfl, rfl⟩
theorem One_8 (a : Int) (w : World) : OneSays 8 a (truthF (decide (a = 0)), 0) w := by
  unfold OneSays
  have hT := fun b w => Truth_any b w
  go_enter Tryz.func75, Tryz.ntmps75
  go_wp2_with fail
  refine (hT _ _).mono ?_
  rintro _ _ ⟨rfl, rfl⟩
  go_wp2
  go_ret2
  exact ⟨rfl, rfl⟩
theorem One_9 (a : Int) (w : World) : OneSays 9 a (truthF (decide (a < 0)), 0) w := by
  unfold OneSays
  have hT := fun b w => Truth_any b w
  go_enter Tryz.func75, Tryz.ntmps75
  go_wp2_with fail
  refine (hT _ _).mono ?_
  rintro _ _ ⟨rfl, rfl⟩
  go_wp2
  go_ret2
  exact ⟨rfl, rfl⟩
theorem One_10 (a : Int) (w : World) : OneSays 10 a (truthF (!decide (a = 0)), 0) w := by
  unfold OneSays
  have hT := fun b w => Truth_any b w
  go_enter Tryz.func75, Tryz.ntmps75
  go_wp2_with fail
  refine (hT _ _).mono ?_
  rintro _ _ ⟨rfl, rfl⟩
  go_wp2
  go_ret2
  exact ⟨rfl, rfl⟩
set_option maxHeartbeats 1000000 in
theorem One_off (op a : Int) (h : op < 1 ∨ 10 < op) (w : World) : OneSays op a (0, 1) w := by
  unfold OneSays
  have h1 : ¬ op = 1 := by omega
  have h2 : ¬ op = 2 := by omega
  have h3 : ¬ op = 3 := by omega
  have h4 : ¬ op = 4 := by omega
  have h5 : ¬ op = 5 := by omega
  have h6 : ¬ op = 6 := by omega
  have h7 : ¬ op = 7 := by omega
  have h8 : ¬ op = 8 := by omega
  have h9 : ¬ op = 9 := by omega
  have h10 : ¬ op = 10 := by omega
  clear h
  go_enter Tryz.func75, Tryz.ntmps75
  go_wp2
  go_ret2
  exact ⟨rfl, rfl⟩
theorem One_any (op a : Int) (w : World) : OneSays op a (oneF op a) w := by
  by_cases h : op < 1 ∨ 10 < op
  · have e : oneF op a = (0, 1) := by
      unfold oneF
      rw [if_neg (by omega), if_neg (by omega), if_neg (by omega), if_neg (by omega), if_neg (by omega), if_neg (by omega), if_neg (by omega), if_neg (by omega), if_neg (by omega), if_neg (by omega)]
    rw [e]
    exact One_off op a h w
  · obtain ⟨k, hk, rfl⟩ : ∃ k : Nat, k < 10 ∧ op = k + 1 := ⟨(op - 1).toNat, by omega, by omega⟩
    clear h
    match k, hk with
    | 0, _ => exact One_1 a w
    | 1, _ => exact One_2 a w
    | 2, _ => exact One_3 a w
    | 3, _ => exact One_4 a w
    | 4, _ => exact One_5 a w
    | 5, _ => exact One_6 a w
    | 6, _ => exact One_7 a w
    | 7, _ => exact One_8 a w
    | 8, _ => exact One_9 a w
    | 9, _ => exact One_10 a w
end Go.Proofs.YtkbchpaofmlhgaaGreatDoor
