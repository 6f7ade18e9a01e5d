/- Rows of cells held against each other. -/
import Derived.Test.YtkbchpaofmlhgaaGreatDoorRowC
import Derived.BigQuiet
namespace Go.Proofs.YtkbchpaofmlhgaaGreatDoor
open Go.RowKit

/-- a row of cells that is read -/
def RowR (w : World) (v : Value) (cs : List Int) : Prop := ∃ a c, v = .slice a cs.length c ∧ ∀ i, i < cs.length → ∃ g off, a = some ⟨g, off, none⟩ ∧ w.cell? ⟨g, off + i, none⟩ = some (.int .i64 (cs.getD i 0))
theorem RowR.quiet {w w' : World} {v : Value} {cs : List Int} (h : RowR w v cs) (t : Touch [] w w') : RowR w' v cs := by
  obtain ⟨a, c, e, k⟩ := h
  exact ⟨a, c, e, fun i hi => by obtain ⟨g, off, e, hc⟩ := k i hi; exact ⟨g, off, e, cell_quiet t hc⟩⟩
theorem RowR.blk {w : World} {g : Nat} {t : TypeId} {cs : List Int} (h : Blk w g t (cells cs).toArray) (c : Nat) : RowR w (.slice (some ⟨g, 0, none⟩) cs.length c) cs :=
  ⟨_, _, rfl, fun i hi => ⟨g, 0, rfl, by rw [Nat.zero_add]; exact (h.cell i).trans (by simpa using cells_get cs i hi)⟩⟩

set_option maxHeartbeats 1000000 in
theorem Same_eq (v1 v2 : Value) (cs : List Int) (w : World) (h1 : RowR w v1 cs) (h2 : RowR w v2 cs) (hl : cs.length ≤ 9223372036854775807) :
    Calls Tryz.prog 16 #[v1, v2] w fun e w' => e = .returned (.bool true) ∧ Touch [] w w' := by
  obtain ⟨a1, c1, rfl, k1⟩ := h1
  obtain ⟨a2, c2, rfl, k2⟩ := h2
  obtain ⟨n, hn⟩ : ∃ n, cs.length = n := ⟨_, rfl⟩
  rw [hn] at k1 k2 hl ⊢
  have hnn : ((n : Int) != n) = false := by simp
  have HK := Lib.hid (And.intro k1 (And.intro k2 hn))
  clear k1 k2 hn
  go_enter Tryz.func16, Tryz.ntmps16
  go_wp2_with fail
  go_loopw [5] (fun i wr => ∃ j : Nat, j ≤ n ∧ i = .int .i64 j ∧ ∃ d, wr = w.drewN d) (fun i _ => n - (intOf i).toNat)
  case atStart => exact ⟨0, Nat.zero_le _, rfl, 0, rfl⟩
  case round =>
    obtain ⟨j, hj, rfl, d, rfl⟩ := hrel
    by_cases hlt : j < n
    · have hlt' : decide ((j : Int) < n) = true := by simp; omega
      obtain ⟨g1, o1, rfl, e1⟩ := HK.out.1 j hlt
      obtain ⟨g2, o2, rfl, e2⟩ := HK.out.2.1 j hlt
      obtain ⟨z, hz⟩ : ∃ z, cs.getD j 0 = z := ⟨_, rfl⟩
      rw [hz] at e1 e2
      have hzz : (z != z) = false := by simp
      have ek : IntKind.i64.wrap ((j : Int) + 1) = (j + 1 : Nat) := by rw [IntKind.wrap_i64]; omega
      clear hz
      go_wp2_with fail
      go_region
      all_goals go_wp2_with fail
      all_goals go_roundw
      case rel => exact ⟨j + 1, by omega, vint (by omega), d + 1, by simp⟩
      case measure => simp only [intOf]; omega
    · have hlt' : decide ((j : Int) < n) = false := by simp; omega
      go_wp2_with fail
      go_ret
      exact ⟨rfl, (Touch.refl [] w).drewN d⟩
end Go.Proofs.YtkbchpaofmlhgaaGreatDoor
