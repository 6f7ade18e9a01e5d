import Derived.Test.YtdokeddjcpnmiaaGreatDoorJStkA
/- The contract of stack's shapes: which cells are taken, and which are put. -/
namespace Go.Proofs.YtdokeddjcpnmiaaGreatDoor
open Go.RowKit

def places (ps : List Nat) : ByteArray := ⟨(ps.map fun i => UInt8.ofNat (97 + i)).toArray⟩
def ShapeSays (op : Int) (t : Int) (s : ByteArray) (w : World) : Prop :=
  Calls Tryz.prog 122 #[.int .i64 op] w fun e w' => e = .returned (.tuple #[.agg #[.int .i64 t, .string s], .bool true]) ∧ Touch [] w w'

set_option maxRecDepth 100000 in
theorem Shape_0 (w : World) : ShapeSays 28 1 ⟨#[97, 97]⟩ w := by
  unfold ShapeSays
  go_enter Tryz.func122, Tryz.ntmps122
  go_wp2
  refine bodyPost_ret (by simp [results, Tryz.results122, go_sem]; try rfl) rfl ⟨rfl, ?_⟩
  exact ((Touch.refl [] w).alloc _).alloc _
set_option maxRecDepth 100000 in
theorem Shape_1 (w : World) : ShapeSays 29 1 ⟨#[]⟩ w := by
  unfold ShapeSays
  go_enter Tryz.func122, Tryz.ntmps122
  go_wp2
  refine bodyPost_ret (by simp [results, Tryz.results122, go_sem]; try rfl) rfl ⟨rfl, ?_⟩
  exact ((Touch.refl [] w).alloc _).alloc _
set_option maxRecDepth 100000 in
theorem Shape_2 (w : World) : ShapeSays 30 2 ⟨#[98, 97]⟩ w := by
  unfold ShapeSays
  go_enter Tryz.func122, Tryz.ntmps122
  go_wp2
  refine bodyPost_ret (by simp [results, Tryz.results122, go_sem]; try rfl) rfl ⟨rfl, ?_⟩
  exact ((Touch.refl [] w).alloc _).alloc _
set_option maxRecDepth 100000 in
theorem Shape_3 (w : World) : ShapeSays 31 2 ⟨#[97, 98, 97]⟩ w := by
  unfold ShapeSays
  go_enter Tryz.func122, Tryz.ntmps122
  go_wp2
  refine bodyPost_ret (by simp [results, Tryz.results122, go_sem]; try rfl) rfl ⟨rfl, ?_⟩
  exact ((Touch.refl [] w).alloc _).alloc _
set_option maxRecDepth 100000 in
theorem Shape_4 (w : World) : ShapeSays 32 3 ⟨#[98, 99, 97]⟩ w := by
  unfold ShapeSays
  go_enter Tryz.func122, Tryz.ntmps122
  go_wp2
  refine bodyPost_ret (by simp [results, Tryz.results122, go_sem]; try rfl) rfl ⟨rfl, ?_⟩
  exact ((Touch.refl [] w).alloc _).alloc _
set_option maxRecDepth 100000 in
theorem Shape_5 (w : World) : ShapeSays 33 2 ⟨#[98]⟩ w := by
  unfold ShapeSays
  go_enter Tryz.func122, Tryz.ntmps122
  go_wp2
  refine bodyPost_ret (by simp [results, Tryz.results122, go_sem]; try rfl) rfl ⟨rfl, ?_⟩
  exact ((Touch.refl [] w).alloc _).alloc _
set_option maxRecDepth 100000 in
theorem Shape_6 (w : World) : ShapeSays 34 2 ⟨#[98, 97, 98]⟩ w := by
  unfold ShapeSays
  go_enter Tryz.func122, Tryz.ntmps122
  go_wp2
  refine bodyPost_ret (by simp [results, Tryz.results122, go_sem]; try rfl) rfl ⟨rfl, ?_⟩
  exact ((Touch.refl [] w).alloc _).alloc _
set_option maxRecDepth 100000 in
theorem Shape_7 (w : World) : ShapeSays 35 1 ⟨#[97, 97]⟩ w := by
  unfold ShapeSays
  go_enter Tryz.func122, Tryz.ntmps122
  go_wp2
  refine bodyPost_ret (by simp [results, Tryz.results122, go_sem]; try rfl) rfl ⟨rfl, ?_⟩
  exact ((Touch.refl [] w).alloc _).alloc _
set_option maxRecDepth 100000 in
theorem Shape_8 (w : World) : ShapeSays 36 2 ⟨#[97, 98, 97, 98]⟩ w := by
  unfold ShapeSays
  go_enter Tryz.func122, Tryz.ntmps122
  go_wp2
  refine bodyPost_ret (by simp [results, Tryz.results122, go_sem]; try rfl) rfl ⟨rfl, ?_⟩
  exact ((Touch.refl [] w).alloc _).alloc _
set_option maxRecDepth 100000 in
theorem Shape_9 (w : World) : ShapeSays 37 2 ⟨#[]⟩ w := by
  unfold ShapeSays
  go_enter Tryz.func122, Tryz.ntmps122
  go_wp2
  refine bodyPost_ret (by simp [results, Tryz.results122, go_sem]; try rfl) rfl ⟨rfl, ?_⟩
  exact ((Touch.refl [] w).alloc _).alloc _
set_option maxRecDepth 100000 in
theorem Shape_10 (w : World) : ShapeSays 38 4 ⟨#[99, 100, 97, 98]⟩ w := by
  unfold ShapeSays
  go_enter Tryz.func122, Tryz.ntmps122
  go_wp2
  refine bodyPost_ret (by simp [results, Tryz.results122, go_sem]; try rfl) rfl ⟨rfl, ?_⟩
  exact ((Touch.refl [] w).alloc _).alloc _
set_option maxRecDepth 100000 in
theorem Shape_11 (w : World) : ShapeSays 39 4 ⟨#[97, 98, 99, 100, 97, 98]⟩ w := by
  unfold ShapeSays
  go_enter Tryz.func122, Tryz.ntmps122
  go_wp2
  refine bodyPost_ret (by simp [results, Tryz.results122, go_sem]; try rfl) rfl ⟨rfl, ?_⟩
  exact ((Touch.refl [] w).alloc _).alloc _

/-- how many are taken, and which are put, by each word -/
def shapesF : List (Nat × List Nat) := [(1, [0, 0]), (1, []), (2, [1, 0]), (2, [0, 1, 0]), (3, [1, 2, 0]), (2, [1]), (2, [1, 0, 1]), (1, [0, 0]), (2, [0, 1, 0, 1]), (2, []), (4, [2, 3, 0, 1]), (4, [0, 1, 2, 3, 0, 1])]
theorem Shape_any (k : Nat) (hk : k < 12) (w : World) : ShapeSays (28 + k : Nat) ((shapesF.getD k (0, [])).1 : Nat) (places (shapesF.getD k (0, [])).2) w := by
  match k, hk with
  | 0, _ => exact Shape_0 w
  | 1, _ => exact Shape_1 w
  | 2, _ => exact Shape_2 w
  | 3, _ => exact Shape_3 w
  | 4, _ => exact Shape_4 w
  | 5, _ => exact Shape_5 w
  | 6, _ => exact Shape_6 w
  | 7, _ => exact Shape_7 w
  | 8, _ => exact Shape_8 w
  | 9, _ => exact Shape_9 w
  | 10, _ => exact Shape_10 w
  | 11, _ => exact Shape_11 w
end Go.Proofs.YtdokeddjcpnmiaaGreatDoor
