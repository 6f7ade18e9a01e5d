/- The contract of stack's Do, at the word that tells how many there are. -/
import Derived.Test.YtnhhflnanogpjaaGreatDoorDo2
namespace Go.Proofs.YtnhhflnanogpjaaGreatDoor
open Go.RowKit

set_option maxHeartbeats 1000000 in
theorem Do_depth (w : World) (b : Nat) (F : List Nat) (L : List Int) (h : StackAt w b F L) (hL : L.length < 128) :
    Calls Tryz.prog 62 #[.pointer (some ⟨b, 0, none⟩), .int .i64 42] w fun e w' =>
      ∃ F', e = .returned (.int .i64 0) ∧ StackAt w' b F' (L ++ [(L.length : Int)]) ∧ Touch F w w' ∧ Sub w F F' := by
  have hP := Push_ok w b F L h hL L.length
  obtain ⟨v0, hb0, hF0, hnb0, hr0⟩ := id h
  obtain ⟨a0, c0, rfl⟩ := row_value hr0
  have g0 := hb0.cell 0
  clear h hb0 hF0 hnb0 hr0
  obtain ⟨n, hn⟩ : ∃ n : Nat, L.length = n := ⟨_, rfl⟩
  rw [hn] at hP g0 ⊢
  clear hn hL
  go_enter Tryz.func62, Tryz.ntmps62
  go_wp2_with fail
  refine hP.mono ?_
  rintro _ w1 ⟨F', rfl, hs, t1, hsub⟩
  go_wp2
  go_ret
  exact ⟨F', rfl, hs, t1, hsub⟩

set_option maxHeartbeats 1000000 in
theorem Do_depth_over (w : World) (b : Nat) (F : List Nat) (L : List Int) (h : StackAt w b F L) (hL : L.length = 128) :
    Calls Tryz.prog 62 #[.pointer (some ⟨b, 0, none⟩), .int .i64 42] w fun e w' => e = .returned (.int .i64 (-3)) ∧ Touch [] w w' := by
  have hP := Push_over w b F L h hL L.length
  obtain ⟨v0, hb0, hF0, hnb0, hr0⟩ := id h
  obtain ⟨a0, c0, rfl⟩ := row_value hr0
  have g0 := hb0.cell 0
  clear h hb0 hF0 hnb0 hr0
  obtain ⟨n, hn⟩ : ∃ n : Nat, L.length = n := ⟨_, rfl⟩
  rw [hn] at hP g0
  clear hn hL
  go_enter Tryz.func62, Tryz.ntmps62
  go_wp2_with fail
  refine hP.mono ?_
  rintro _ w1 ⟨rfl, t1⟩
  go_wp2
  go_ret
  exact ⟨rfl, t1⟩

/-- how deep the cell is that is meant; none: there is no such -/
def Far (L : List Int) (d : Nat) : Prop := ∃ x : Int, L.getD (L.length - 1) 0 = x ∧ x = d ∧ d + 1 < L.length

set_option maxRecDepth 100000 in
set_option maxHeartbeats 2000000 in
theorem far_none (w : World) (b : Nat) (F : List Nat) (op : Int) (h : StackAt w b F []) :
    Calls Tryz.prog 78 #[.pointer (some ⟨b, 0, none⟩), .int .i64 op] w fun e w' => e = .returned (.int .i64 (-4)) ∧ Touch [] w w' := by
  obtain ⟨v0, hb0, hF0, hnb0, hr0⟩ := h
  obtain ⟨a0, c0, rfl⟩ := row_value hr0
  have g0 := hb0.cell 0
  clear hb0 hF0 hnb0 hr0
  simp only [List.length_nil] at g0
  go_enter Tryz.func78, Tryz.ntmps78
  go_wp2
  go_ret
  exact ⟨rfl, Touch.refl _ _⟩

theorem stack_last {w : World} {b : Nat} {F : List Nat} {L : List Int} (h : StackAt w b F L) (n : Nat) (hn : L.length = n + 1) :
    ∃ g c, Blk w b 72 #[.slice (some ⟨g, 0, none⟩) (n + 1) c] ∧ b ≠ g ∧ F = [b, g] ∧ n + 1 ≤ c ∧ w.ownsRow 0 34 1 (.slice (some ⟨g, 0, none⟩) (n + 1) c) (n + 1) (cells L) ∧
      ∀ j, j ≤ n → w.cell? ⟨g, j, none⟩ = some (.int .i64 (L.getD j 0)) := by
  obtain ⟨v0, hb0, rfl, hnb0, hr0⟩ := h
  rw [hn] at hr0
  obtain ⟨g, c, rfl⟩ := Go.Joins.ownsRow_form hr0 (by omega)
  refine ⟨g, c, hb0, ?_, rfl, row_cap hr0, hr0, fun j hj => ?_⟩
  · intro e
    exact hnb0 (by simp [rowOf, e])
  · rw [hr0.cellAt j (by omega)]
    exact cells_get L j (by omega)

set_option maxRecDepth 100000 in
set_option maxHeartbeats 2000000 in
theorem far_under (w : World) (b : Nat) (F : List Nat) (L : List Int) (op : Int) (h : StackAt w b F L) (n : Nat) (hn : L.length = n + 1) (hL : n ≤ 128) (x : Int) (hx : L.getD n 0 = x) (hu : ¬ IntKind.u64.wrap x < n) :
    Calls Tryz.prog 78 #[.pointer (some ⟨b, 0, none⟩), .int .i64 op] w fun e w' => e = .returned (.int .i64 (-4)) ∧ Touch [] w w' := by
  obtain ⟨g, c, hb, hbg, hF, hc, hr, hcell⟩ := stack_last h n hn
  have g0 := hb.cell 0
  have gx := hcell n (Nat.le_refl _)
  rw [hx] at gx
  have en : IntKind.i64.wrap (((n + 1 : Nat) : Int) - 1) = n := by rw [IntKind.wrap_i64]; omega
  have eu : IntKind.u64.wrap (n : Int) = n := by rw [IntKind.wrap_u64]; omega
  have e0 : ¬ (n : Int) < 0 := by omega
  have e1 : (n : Int) ≤ IntKind.u64.wrap x := by omega
  clear h hb hF hr hcell hx hu hn
  go_enter Tryz.func78, Tryz.ntmps78
  go_wp2
  all_goals go_ret
  all_goals exact ⟨rfl, Touch.refl _ _⟩
end Go.Proofs.YtnhhflnanogpjaaGreatDoor
