/- Operations that make a number: begin, hold, digits, end. -/
import Derived.Test.YtkbchpaofmlhgaaGreatDoorHold
import Derived.Test.YtkbchpaofmlhgaaGreatDoorDig2
namespace Go.Proofs.YtkbchpaofmlhgaaGreatDoor
open Go.RowKit

set_option maxHeartbeats 1000000 in
theorem begin_sem : OpSem 102 0 (fun _ _ => True) (fun _ S => (([], 0), { S with made := [] })) := by
  intro W B s F S t f first cap l lv hok hS hF hfd
  obtain ⟨b, C, hC, hb, hA, hB⟩ := found_says hfd rfl rfl
  obtain ⟨g, _, hg, rfl, rfl, rfl, rfl⟩ := act_open (hA : ActAt C 0 220 154 (.func (.func 180) #[] #[.pointer (some ⟨b, 0, none⟩)]) _ W) (Nat.zero_le _)
  refine ⟨rfl, enters_of Tryz.func220 (by kernel_rfl) rfl, fun hl hpre hc => ActDone.post (tells_clo hg (enters_of Tryz.func180 (by kernel_rfl) rfl) ?_)⟩
  show Calls Tryz.prog _ _ W fun e w' => e = .returned (.int .i64 0) ∧ Done W s F S { S with made := [] } w'
  obtain ⟨FS, ov, mv, hp, rfl⟩ := hS
  have b0 := hB.cell 0
  have s3 := hp.blk.cell 3
  have f3 := hp.blk.frozen 3
  have HD : Hid (Done W s (foot s S FS ov mv) S { S with made := [] } (W.setCell ⟨s, 3, none⟩ (.slice none 0 0))) :=
    done_making hp (hp.blk.set_ 3 _) ⟨World.ownsRow_nil _ _ _ _, fun x hx => by cases hx⟩ ((Touch.refl _ W).setCell (by simp) _) (fun x hx => by simp [rowOf] at hx)
  clear hB hA hg hfd hc hF hp
  show Calls Tryz.prog 180 #[lv, .pointer (some ⟨b, 0, none⟩)] W _
  go_enter Tryz.func180, Tryz.ntmps180
  go_wp2_with fail
  go_ret
  exact ⟨rfl, HD.out⟩
def holdF (l : List Int) (S : PS) : (List Int × Int) × PS := if S.made.length < 200 then (([], 0), { S with made := S.made ++ [l.getD 0 0 % 256] }) else (([], -17), S)
set_option maxHeartbeats 1000000 in
theorem hold_sem : OpSem 105 1 (fun _ _ => True) holdF := by
  intro W B s F S t f first cap l lv hok hS hF hfd
  obtain ⟨b, C, hC, hb, hA, hB⟩ := found_says hfd rfl rfl
  obtain ⟨g, _, hg, rfl, rfl, rfl, rfl⟩ := act_open (hA : ActAt C 1 220 154 (.func (.func 182) #[] #[.pointer (some ⟨b, 0, none⟩)]) _ W) (Nat.zero_le _)
  refine ⟨rfl, enters_of Tryz.func220 (by kernel_rfl) rfl, fun hl hpre hc => ?_⟩
  have key : ∀ (x : Int) (T : PS), (∀ w, Touch [] W w → Calls Tryz.prog 183 #[.pointer (some ⟨s, 0, none⟩), .int .u8 (l.getD 0 0 % 256)] w fun e w' => e = .returned (.int .i64 x) ∧ Done W s F S T w') → Calls Tryz.prog 182 (#[] ++ #[lv] ++ #[.pointer (some ⟨b, 0, none⟩)]) W fun e w' => e = .returned (.int .i64 x) ∧ Done W s F S T w' := by
    intro x T hH
    obtain ⟨ad, c, q, e, rfl, cq⟩ := hc.one hl
    subst e
    rw [List.getD_cons_zero] at hH
    have hH := hH _ (Touch.refl [] W).drew
    have b0 := (hB.touch ((Touch.refl [] W).drew) (by simp)).cell 0
    have x0 := cell_quiet ((Touch.refl [] W).drew) cq
    clear hS hB hA hg hfd hc hF cq
    show Calls Tryz.prog 182 #[.slice (some ⟨ad, 0, none⟩) 1 c, .pointer (some ⟨b, 0, none⟩)] W _
    go_enter Tryz.func182, Tryz.ntmps182
    go_upto_region 1 with fail
    go_region_with (go_at_call 183; refine hH.mono ?_; rintro _ w1 ⟨rfl, hd⟩; have HD := Lib.hid hd; clear hd)
    all_goals go_wp2_with fail
    all_goals go_ret
    all_goals exact ⟨rfl, HD.out⟩
  by_cases hlt : S.made.length < 200
  · have e : holdF l S = (([], 0), { S with made := S.made ++ [l.getD 0 0 % 256] }) := by unfold holdF; rw [if_pos hlt]
    rw [e]
    refine ActDone.post (tells_clo hg (enters_of Tryz.func182 (by kernel_rfl) rfl) (key 0 _ fun w t => (hold_ok (hS.quiet t) hlt _ (by omega)).mono ?_))
    rintro _ w' ⟨rfl, F', h1, h2, h3, h4⟩
    exact ⟨rfl, F', h1, h2, (t.mono (by simp)).trans h3 (fun g hg => .inl hg), h4.lower t.size⟩
  · have e : holdF l S = (([], -17), S) := by unfold holdF; rw [if_neg hlt]
    rw [e]
    refine ActDone.post (tells_clo hg (enters_of Tryz.func182 (by kernel_rfl) rfl) (key (-17) _ fun w t => (hold_full (hS.quiet t) hlt _).mono ?_))
    rintro _ _ ⟨rfl, rfl⟩
    exact ⟨rfl, Done.self hS t⟩
/-- the pair that was taken -/
theorem a_any (ad n c : Nat) (x y : Int) (w : World) (hn : 2 ≤ n) (h0 : w.cell? ⟨ad, 0, none⟩ = some (.int .i64 x)) (h1 : w.cell? ⟨ad, 1, none⟩ = some (.int .i64 y)) :
    Calls Tryz.prog 108 #[.slice (some ⟨ad, 0, none⟩) n c] w fun e w' => e = .returned (.agg #[.int .i64 x, .int .i64 y]) ∧ Touch [] w w' := by
  have bR := Blk.new w 38 #[.int .i64 0, .int .i64 0]
  have e1 : (1 : Int) < n := by omega
  have e0 : (0 : Int) < n := by omega
  have tR := (Touch.refl [] w).alloc (.cells #[.int .i64 0, .int .i64 0] 38)
  have x0 := cell_quiet tR.drew h0
  have x1 := cell_quiet tR.drew h1
  go_enter Tryz.func108, Tryz.ntmps108
  have bD := bR.drew
  have f0 := bD.frozen 0
  have f1 := bD.frozen 1
  have r0 := bD.cell 0
  have r1 := bD.cell 1
  clear h0 h1 bR tR bD
  go_upto_region 1 with fail
  go_region
  all_goals go_wp2_with fail
  all_goals go_returns
  all_goals exact ⟨rfl, ((Touch.refl [] w).alloc _).drew⟩
end Go.Proofs.YtkbchpaofmlhgaaGreatDoor
