import Derived.Test.YtkbchpaofmlhgaaGreatDoorJPDoC
import Derived.Test.YtkbchpaofmlhgaaGreatDoorJLiveA
/- Operations of cells, by their numbers: what each makes of a state. -/
namespace Go.Proofs.YtkbchpaofmlhgaaGreatDoor
open Go.RowKit

theorem cell1_sem (op : Int) (h : manyF op = 1) : OpSemC op 1 (fun _ _ => True) (fun l S => (([(oneF op (l.getD 0 0)).1], (oneF op (l.getD 0 0)).2), S)) := by
  intro W B s F S t f first cap l lv hok hS hF hfd
  obtain ⟨b, C, hC, hb, hA, hB⟩ := hfd
  have harm : armOf op = (1, 74) := by unfold armOf; rw [if_pos h]
  rw [harm] at hA
  obtain ⟨g, _, hg, rfl, rfl, rfl, rfl⟩ := act_open hA (Nat.zero_le _)
  refine ⟨rfl, enters_of Tryz.func94 (by kernel_rfl) rfl, fun hl hpre hc => ActDone.post (may_clo hg (enters_of Tryz.func74 (by kernel_rfl) rfl) ?_)⟩
  obtain ⟨ad, c, q, e, rfl, cq⟩ := hc.one hl
  subst e
  show Calls Tryz.prog _ _ W fun e w' => e = .returned (.tuple #[.int .i64 (oneF op q).1, .int .i64 (oneF op q).2]) ∧ Done W s F S S w'
  have hO := fun w => One_any op q w
  obtain ⟨r, hr⟩ : ∃ r, oneF op q = r := ⟨_, rfl⟩
  rw [hr] at hO ⊢
  unfold OneSays at hO
  have b0 := (hB.touch ((Touch.refl [] W).drew) (by simp)).cell 0
  have x0 := cell_quiet ((Touch.refl [] W).drew) cq
  have HD := Lib.hid (Done.self hS ((Touch.refl [] W).drew))
  clear hS hB hA hg hF hc cq hr harm h
  show Calls Tryz.prog 74 #[.slice (some ⟨ad, 0, none⟩) 1 c, .pointer (some ⟨b, 0, none⟩)] W _
  go_enter Tryz.func74, Tryz.ntmps74
  go_upto_region 1 with fail
  go_region_with (go_at_call 75; refine (hO _).mono ?_; rintro _ _ ⟨rfl, rfl⟩)
  all_goals go_wp2_with fail
  all_goals go_ret2
  all_goals exact ⟨rfl, HD.out⟩
/-- what is done to two cells: a cell, or an error -/
def twoR (op a b : Int) : Int × Int := if b = 0 ∧ (op = 14 ∨ op = 15) then (0, -10) else (twoF op a b, 0)
theorem TwoR_any (op : Int) (h : 11 ≤ op ∧ op ≤ 27) (a b : Int) (w : World) : Calls Tryz.prog 77 #[.int .i64 op, .int .i64 a, .int .i64 b] w fun e w' => e = .returned (.tuple #[.int .i64 (twoR op a b).1, .int .i64 (twoR op a b).2]) ∧ Touch [] w w' := by
  obtain ⟨k, rfl⟩ : ∃ k : Nat, op = k := ⟨op.toNat, by omega⟩
  unfold twoR
  by_cases hb : b = 0 ∧ ((k : Int) = 14 ∨ (k : Int) = 15)
  · rw [if_pos hb]
    obtain ⟨rfl, hk⟩ := hb
    exact Two_zero k (by omega) a w
  · rw [if_neg hb]
    exact Two_ok k (by omega) a b (by omega) w
set_option maxHeartbeats 1000000 in
theorem cell2_sem (op : Int) (h : manyF op = 2) : OpSemC op 2 (fun _ _ => True) (fun l S => (([(twoR op (l.getD 0 0) (l.getD 1 0)).1], (twoR op (l.getD 0 0) (l.getD 1 0)).2), S)) := by
  intro W B s F S t f first cap l lv hok hS hF hfd
  obtain ⟨b, C, hC, hb, hA, hB⟩ := hfd
  have harm : armOf op = (2, 76) := by unfold armOf; rw [if_neg (by omega), if_pos h]
  rw [harm] at hA
  obtain ⟨g, _, hg, rfl, rfl, rfl, rfl⟩ := act_open hA (Nat.zero_le _)
  refine ⟨rfl, enters_of Tryz.func94 (by kernel_rfl) rfl, fun hl hpre hc => ActDone.post (may_clo hg (enters_of Tryz.func76 (by kernel_rfl) rfl) ?_)⟩
  obtain ⟨ad, c, q, q1, e, rfl, cq, cq1⟩ := hc.two hl
  subst e
  show Calls Tryz.prog _ _ W fun e w' => e = .returned (.tuple #[.int .i64 (twoR op q q1).1, .int .i64 (twoR op q q1).2]) ∧ Done W s F S S w'
  have h27 : 11 ≤ op ∧ op ≤ 27 := by unfold manyF at h; split at h <;> first | omega | (split at h <;> omega)
  have hO := fun w => TwoR_any op h27 q q1 w
  obtain ⟨r, hr⟩ : ∃ r, twoR op q q1 = r := ⟨_, rfl⟩
  rw [hr] at hO ⊢
  have b0 := (hB.touch ((Touch.refl [] W).drew) (by simp)).cell 0
  have x0 := cell_quiet ((Touch.refl [] W).drew) cq
  have x1 := cell_quiet ((Touch.refl [] W).drew) cq1
  have HH := Lib.hid hS
  clear hS hB hA hg hF hc cq cq1 hr harm h h27
  show Calls Tryz.prog 76 #[.slice (some ⟨ad, 0, none⟩) 2 c, .pointer (some ⟨b, 0, none⟩)] W _
  go_enter Tryz.func76, Tryz.ntmps76
  go_upto_region 1 with fail
  go_region_with (go_at_call 77; refine (hO _).mono ?_; rintro _ w1 ⟨rfl, t1⟩; have HD : Hid (Done W s F S S w1) := Done.self HH.out t1.of_drew; clear t1)
  all_goals go_wp2_with fail
  all_goals go_ret2
  all_goals exact ⟨rfl, HD.out⟩
end Go.Proofs.YtkbchpaofmlhgaaGreatDoor
