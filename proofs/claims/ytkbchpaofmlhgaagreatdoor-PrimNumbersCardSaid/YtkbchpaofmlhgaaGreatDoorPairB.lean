/- The document's pairs, second part: a pair is a number below 2^128; Add, Twice, Neg, ULess. -/
import Derived.Test.YtkbchpaofmlhgaaGreatDoorPairA
namespace Go.Proofs.YtkbchpaofmlhgaaGreatDoor
open Go.RowKit

/-- the pair of a number, as a value -/
def pv (n : Nat) : Value := (pairOf n).v
theorem bits_cell (n : Nat) (h : n < 18446744073709551616) : bitsOf (cellOf n) = n := by unfold bitsOf cellOf; split <;> omega
theorem num_pair (n : Nat) (h : n < 340282366920938463463374607431768211456) : (pairOf n).num = n := by
  unfold PairV.num pairOf
  simp only
  rw [bits_cell _ (by omega), bits_cell _ (by omega)]
  omega
theorem pv_form (n : Nat) : pv n = .agg #[.int .i64 (cellOf (n % 18446744073709551616)), .int .i64 (cellOf (n / 18446744073709551616 % 18446744073709551616))] := rfl
theorem cell_bounds (n : Nat) (h : n < 18446744073709551616) : -9223372036854775808 ≤ cellOf n ∧ cellOf n ≤ 9223372036854775807 := by unfold cellOf; split <;> omega
theorem add_pv (a b : Nat) (ha : a < 340282366920938463463374607431768211456) (hb : b < 340282366920938463463374607431768211456) (w : World) :
    Calls Tryz.prog 28 #[pv a, pv b] w fun e w' => e = .returned (pv ((a + b) % 340282366920938463463374607431768211456)) ∧ Touch [] w w' := by
  have h := padd_any (pairOf a) (pairOf b) w
  rw [num_pair a ha, num_pair b hb] at h
  exact h

theorem size_alloc (w : World) (A : Obj) : (w.alloc A).heap.size = w.heap.size + 1 := by
  show (w.heap.push A).size = _
  rw [Array.size_push]
/-- the newest block's two cells, behind a call -/
theorem two_cells {w w1 : World} {u v : Value} {T : TypeId} (t : Touch [] (w.alloc (.cells #[u, v] T)) w1) (n : Nat) (hn : w.heap.size = n) :
    w1.cell? ⟨n, 0, none⟩ = some u ∧ w1.cell? ⟨n, 1, none⟩ = some v ∧ w1.frozen? ⟨n, 0, none⟩ = false ∧ w1.frozen? ⟨n, 1, none⟩ = false := by
  subst hn
  have hlt : w.heap.size < (w.alloc (.cells #[u, v] T)).heap.size := by rw [size_alloc]; omega
  refine ⟨(t.cell (p := ⟨w.heap.size, 0, none⟩) hlt (by simp)).trans ?_, (t.cell (p := ⟨w.heap.size, 1, none⟩) hlt (by simp)).trans ?_, (t.frozen (p := ⟨w.heap.size, 0, none⟩) hlt (by simp)).trans ?_, (t.frozen (p := ⟨w.heap.size, 1, none⟩) hlt (by simp)).trans ?_⟩
  · rw [World.cell?_alloc_new]; rfl
  · rw [World.cell?_alloc_new]; rfl
  · exact World.frozen?_alloc_new _ _ _ _
  · exact World.frozen?_alloc_new _ _ _ _

set_option maxRecDepth 100000 in
theorem twice_pv (a : Nat) (ha : a < 340282366920938463463374607431768211456) (w : World) :
    Calls Tryz.prog 86 #[pv a] w fun e w' => e = .returned (pv ((a + a) % 340282366920938463463374607431768211456)) ∧ Touch [] w w' := by
  have h := fun W => add_pv a a ha ha W
  obtain ⟨r, hr⟩ : ∃ r, (a + a) % 340282366920938463463374607431768211456 = r := ⟨_, rfl⟩
  rw [hr] at h ⊢
  clear hr
  rw [pv_form a] at h ⊢
  rw [pv_form r] at h ⊢
  go_enter Tryz.func86, Tryz.ntmps86
  go_wp2_with fail
  refine (h _).mono ?_
  rintro _ w1 ⟨rfl, t1⟩
  obtain ⟨c0, c1, f0, f1⟩ := two_cells t1 (w.heap.size + 1) (size_alloc _ _)
  have t2 : Touch [] w w1 := (((Touch.refl [] w).alloc _).alloc _).trans t1 (by simp)
  clear t1
  go_wp2_with fail
  have e0 := fun u => World.cell?_setCell_same w1 ⟨w.heap.size + 1, 0, none⟩ u c0
  refine bodyPost_ret (by simp [results, Tryz.results86, go_sem, e0, c1]; try rfl) rfl ?_
  exact ⟨rfl, (t2.setCell (by simp) _).setCell (by simp) _⟩

theorem not_cell (x : Nat) (h : x < 18446744073709551616) : wrap64 (-1 - cellOf x) = cellOf (18446744073709551615 - x) := by
  unfold wrap64 cellOf
  split <;> split <;> omega
set_option maxRecDepth 100000 in
theorem neg_pv (a : Nat) (ha : a < 340282366920938463463374607431768211456) (w : World) :
    Calls Tryz.prog 19 #[pv a] w fun e w' => e = .returned (pv ((340282366920938463463374607431768211456 - a) % 340282366920938463463374607431768211456)) ∧ Touch [] w w' := by
  have h := fun W => add_pv (340282366920938463463374607431768211455 - a) 1 (by omega) (by omega) W
  rw [show 340282366920938463463374607431768211455 - a + 1 = 340282366920938463463374607431768211456 - a by omega] at h
  obtain ⟨r, hr⟩ : ∃ r, (340282366920938463463374607431768211456 - a) % 340282366920938463463374607431768211456 = r := ⟨_, rfl⟩
  rw [hr] at h ⊢
  clear hr
  rw [pv_form a]
  rw [pv_form r] at h ⊢
  rw [pv_form 1, pv_form (340282366920938463463374607431768211455 - a)] at h
  have n0 := not_cell (a % 18446744073709551616) (by omega)
  have n1 := not_cell (a / 18446744073709551616 % 18446744073709551616) (by omega)
  rw [show 18446744073709551615 - a % 18446744073709551616 = (340282366920938463463374607431768211455 - a) % 18446744073709551616 by omega] at n0
  rw [show 18446744073709551615 - a / 18446744073709551616 % 18446744073709551616 = (340282366920938463463374607431768211455 - a) / 18446744073709551616 % 18446744073709551616 by omega] at n1
  rw [← n0, ← n1, show cellOf (1 % 18446744073709551616) = 1 by decide, show cellOf (1 / 18446744073709551616 % 18446744073709551616) = 0 by decide] at h
  clear n0 n1
  go_enter Tryz.func19, Tryz.ntmps19
  go_wp2_with fail
  refine (h _).mono ?_
  rintro _ w1 ⟨rfl, t1⟩
  obtain ⟨c0, c1, f0, f1⟩ := two_cells t1 (w.heap.size + 1) (size_alloc _ _)
  have t2 : Touch [] w w1 := (((Touch.refl [] w).alloc _).alloc _).trans t1 (by simp)
  clear t1
  go_wp2_with fail
  have e0 := fun u => World.cell?_setCell_same w1 ⟨w.heap.size + 1, 0, none⟩ u c0
  refine bodyPost_ret (by simp [results, Tryz.results19, go_sem, e0, c1]; try rfl) rfl ?_
  exact ⟨rfl, (t2.setCell (by simp) _).setCell (by simp) _⟩

set_option maxRecDepth 100000 in
theorem less_pv (a b : Nat) (ha : a < 340282366920938463463374607431768211456) (hb : b < 340282366920938463463374607431768211456) (w : World) :
    Calls Tryz.prog 87 #[pv a, pv b] w fun e w' => e = .returned (.bool (decide (a < b))) ∧ Touch [] w w' := by
  have hlo := fun W => below_any (cellOf (a % 18446744073709551616)) (cellOf (b % 18446744073709551616)) W
  have hhi := fun W => below_any (cellOf (a / 18446744073709551616 % 18446744073709551616)) (cellOf (b / 18446744073709551616 % 18446744073709551616)) W
  rw [bits_cell _ (by omega), bits_cell _ (by omega)] at hlo hhi
  rw [pv_form a, pv_form b]
  have hinj : (cellOf (a / 18446744073709551616 % 18446744073709551616) = cellOf (b / 18446744073709551616 % 18446744073709551616)) ↔ a / 18446744073709551616 = b / 18446744073709551616 := by
    refine ⟨fun h => ?_, fun h => by rw [h]⟩
    have := congrArg bitsOf h
    rw [bits_cell _ (by omega), bits_cell _ (by omega)] at this
    omega
  by_cases he : cellOf (a / 18446744073709551616 % 18446744073709551616) = cellOf (b / 18446744073709551616 % 18446744073709551616)
  · have he2 := hinj.1 he
    have hd : decide (a % 18446744073709551616 < b % 18446744073709551616) = decide (a < b) := by
      rw [decide_eq_decide]; omega
    rw [hd] at hlo
    rw [he]
    clear he he2 hinj hd hhi
    go_enter Tryz.func87, Tryz.ntmps87
    go_wp2_with fail
    refine (hlo _).mono ?_
    rintro _ _ ⟨rfl, rfl⟩
    go_wp2_with fail
    go_ret
    exact ⟨rfl, ((Touch.refl _ _).alloc _).alloc _⟩
  · have he2 : a / 18446744073709551616 ≠ b / 18446744073709551616 := fun h => he (hinj.2 h)
    have hd : decide (a / 18446744073709551616 % 18446744073709551616 < b / 18446744073709551616 % 18446744073709551616) = decide (a < b) := by
      rw [decide_eq_decide]; omega
    rw [hd] at hhi
    clear he2 hinj hd hlo
    go_enter Tryz.func87, Tryz.ntmps87
    go_wp2_with fail
    refine (hhi _).mono ?_
    rintro _ _ ⟨rfl, rfl⟩
    go_wp2_with fail
    go_ret
    exact ⟨rfl, ((Touch.refl _ _).alloc _).alloc _⟩

end Go.Proofs.YtkbchpaofmlhgaaGreatDoor
