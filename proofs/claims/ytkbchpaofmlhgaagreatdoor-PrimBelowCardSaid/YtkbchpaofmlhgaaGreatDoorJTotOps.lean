import Derived.Test.YtkbchpaofmlhgaaGreatDoorJLiveA
import Derived.Test.YtkbchpaofmlhgaaGreatDoorJTotMem
/- Operations of prim's memory map, each at any cells. Printed by totmem.py. -/
namespace Go.Proofs.YtkbchpaofmlhgaaGreatDoor
open Go.RowKit

set_option maxHeartbeats 2000000 in
theorem get_tot : OpSem 73 1 (fun _ _ => True) (fun l S => (([getV S.bs S.n (l.getD 0 0)], getE S.n (l.getD 0 0)), S)) := by
  intro W B s F S t f first cap l lv hok hS hF hfd
  obtain ⟨b, C, hC, hb, hA, hB⟩ := found_memory hfd rfl rfl
  obtain ⟨g, _, hg, rfl, rfl, rfl, rfl⟩ := act_open (hA : ActAt C 1 94 124 (.func (.func 139) #[] #[.pointer (some ⟨b, 0, none⟩)]) _ W) (Nat.zero_le _)
  refine ⟨rfl, enters_of Tryz.func94 (by kernel_rfl) rfl, fun hl hpre hc => ActDone.post (may_clo hg (enters_of Tryz.func139 (by kernel_rfl) rfl) ?_)⟩
  obtain ⟨ad, c, q0, e, rfl, cq0⟩ := hc.one hl
  subst e
  show Calls Tryz.prog _ _ W fun e w' => e = .returned (.tuple #[.int .i64 (getV S.bs S.n q0), .int .i64 (getE S.n q0)]) ∧ Done W s F S S w'
  have hG := Get_tot (hS.mem.quiet ((Touch.refl [] W).drew)) q0
  obtain ⟨y, hy⟩ : ∃ z, getV S.bs S.n q0 = z := ⟨_, rfl⟩
  rw [hy] at hG ⊢
  obtain ⟨ee, he⟩ : ∃ z, getE S.n q0 = z := ⟨_, rfl⟩
  rw [he] at hG ⊢
  clear hy he
  have HH := Lib.hid (And.intro hS hB)
  have b0 := (hB.touch ((Touch.refl [] W).drew) (by simp)).cell 0
  have x0 := cell_quiet ((Touch.refl [] W).drew) cq0
  clear hS hB hA hg hfd hF hok hl hpre hc cq0
  show Calls Tryz.prog 139 #[.slice (some ⟨ad, 0, none⟩) 1 c, .pointer (some ⟨b, 0, none⟩)] W _
  go_enter Tryz.func139, Tryz.ntmps139
  go_upto_region 1 with fail
  go_region_with (go_at_call 47; refine hG.mono ?_; rintro _ w1 ⟨rfl, t1⟩; have HD : Hid (Done W s F S S w1) := Done.self HH.out.1 t1.of_drew; clear t1)
  all_goals go_wp2_with fail
  all_goals go_ret2
  all_goals exact ⟨rfl, HD.out⟩
set_option maxHeartbeats 2000000 in
theorem put_tot : OpSem 74 2 (fun _ _ => True) (fun l S => (([], getE S.n (l.getD 1 0)), { S with bs := putT S.bs S.n (l.getD 1 0) (l.getD 0 0) })) := by
  intro W B s F S t f first cap l lv hok hS hF hfd
  obtain ⟨b, C, hC, hb, hA, hB⟩ := found_memory hfd rfl rfl
  obtain ⟨g, _, hg, rfl, rfl, rfl, rfl⟩ := act_open (hA : ActAt C 2 220 154 (.func (.func 143) #[] #[.pointer (some ⟨b, 0, none⟩)]) _ W) (Nat.zero_le _)
  refine ⟨rfl, enters_of Tryz.func220 (by kernel_rfl) rfl, fun hl hpre hc => ActDone.post (tells_clo hg (enters_of Tryz.func143 (by kernel_rfl) rfl) ?_)⟩
  obtain ⟨ad, c, q0, q1, e, rfl, cq0, cq1⟩ := hc.two hl
  subst e
  show Calls Tryz.prog _ _ W fun e w' => e = .returned (.int .i64 (getE S.n q1)) ∧ Done W s F S { S with bs := putT S.bs S.n q1 q0 } w'
  have hG := Put_tot (hS.mem.quiet ((Touch.refl [] W).drew)) q1 q0
  obtain ⟨ee, he⟩ : ∃ z, getE S.n q1 = z := ⟨_, rfl⟩
  rw [he] at hG ⊢
  clear he
  have HH := Lib.hid (And.intro hS hB)
  have b0 := (hB.touch ((Touch.refl [] W).drew) (by simp)).cell 0
  have x0 := cell_quiet ((Touch.refl [] W).drew) cq0
  have x1 := cell_quiet ((Touch.refl [] W).drew) cq1
  clear hS hB hA hg hfd hF hok hl hpre hc cq0 cq1
  show Calls Tryz.prog 143 #[.slice (some ⟨ad, 0, none⟩) 2 c, .pointer (some ⟨b, 0, none⟩)] W _
  go_enter Tryz.func143, Tryz.ntmps143
  go_upto_region 1 with fail
  go_region_with (go_at_call 69; refine hG.mono ?_; rintro _ w1 ⟨rfl, hm, t1⟩; have HD : Hid (Done W s F S _ w1) := Done.mem HH.out.1 hm t1.of_drew; clear hm t1)
  all_goals go_wp2_with fail
  all_goals go_ret
  all_goals exact ⟨rfl, HD.out⟩
set_option maxHeartbeats 2000000 in
theorem getC_tot : OpSem 75 1 (fun _ _ => True) (fun l S => (([gbV S.bs S.n (l.getD 0 0)], pieE S.n (l.getD 0 0) 1), S)) := by
  intro W B s F S t f first cap l lv hok hS hF hfd
  obtain ⟨b, C, hC, hb, hA, hB⟩ := found_memory hfd rfl rfl
  obtain ⟨g, _, hg, rfl, rfl, rfl, rfl⟩ := act_open (hA : ActAt C 1 94 124 (.func (.func 140) #[] #[.pointer (some ⟨b, 0, none⟩)]) _ W) (Nat.zero_le _)
  refine ⟨rfl, enters_of Tryz.func94 (by kernel_rfl) rfl, fun hl hpre hc => ActDone.post (may_clo hg (enters_of Tryz.func140 (by kernel_rfl) rfl) ?_)⟩
  obtain ⟨ad, c, q0, e, rfl, cq0⟩ := hc.one hl
  subst e
  show Calls Tryz.prog _ _ W fun e w' => e = .returned (.tuple #[.int .i64 (gbV S.bs S.n q0), .int .i64 (pieE S.n q0 1)]) ∧ Done W s F S S w'
  have hG := GetByte_tot (hS.mem.quiet ((Touch.refl [] W).drew)) q0
  have hby := gbV_byte hS.mem q0
  obtain ⟨y, hy⟩ : ∃ z, gbV S.bs S.n q0 = z := ⟨_, rfl⟩
  rw [hy] at hG hby ⊢
  obtain ⟨ee, he⟩ : ∃ z, pieE S.n q0 1 = z := ⟨_, rfl⟩
  rw [he] at hG ⊢
  clear hy he
  have ew : IntKind.i64.wrap y = y := by rw [IntKind.wrap_i64]; omega
  have HH := Lib.hid (And.intro hS hB)
  have b0 := (hB.touch ((Touch.refl [] W).drew) (by simp)).cell 0
  have x0 := cell_quiet ((Touch.refl [] W).drew) cq0
  clear hS hB hA hg hfd hF hok hl hpre hc cq0
  show Calls Tryz.prog 140 #[.slice (some ⟨ad, 0, none⟩) 1 c, .pointer (some ⟨b, 0, none⟩)] W _
  go_enter Tryz.func140, Tryz.ntmps140
  go_upto_region 1 with fail
  go_region_with (go_at_call 141; refine hG.mono ?_; rintro _ w1 ⟨rfl, t1⟩; have HD : Hid (Done W s F S S w1) := Done.self HH.out.1 t1.of_drew; clear t1)
  all_goals go_wp2_with fail
  all_goals go_ret2
  all_goals exact ⟨rfl, HD.out⟩
set_option maxHeartbeats 2000000 in
theorem putC_tot : OpSem 76 2 (fun _ _ => True) (fun l S => (([], pieE S.n (l.getD 1 0) 1), { S with bs := filT S.bs S.n (l.getD 1 0) 1 (l.getD 0 0 % 256) })) := by
  intro W B s F S t f first cap l lv hok hS hF hfd
  obtain ⟨b, C, hC, hb, hA, hB⟩ := found_memory hfd rfl rfl
  obtain ⟨g, _, hg, rfl, rfl, rfl, rfl⟩ := act_open (hA : ActAt C 2 220 154 (.func (.func 144) #[] #[.pointer (some ⟨b, 0, none⟩)]) _ W) (Nat.zero_le _)
  refine ⟨rfl, enters_of Tryz.func220 (by kernel_rfl) rfl, fun hl hpre hc => ActDone.post (tells_clo hg (enters_of Tryz.func144 (by kernel_rfl) rfl) ?_)⟩
  obtain ⟨ad, c, q0, q1, e, rfl, cq0, cq1⟩ := hc.two hl
  subst e
  show Calls Tryz.prog _ _ W fun e w' => e = .returned (.int .i64 (pieE S.n q1 1)) ∧ Done W s F S { S with bs := filT S.bs S.n q1 1 (q0 % 256) } w'
  have hG := PutByte_tot (hS.mem.quiet ((Touch.refl [] W).drew)) q1 (q0 % 256) (by omega)
  obtain ⟨ee, he⟩ : ∃ z, pieE S.n q1 1 = z := ⟨_, rfl⟩
  rw [he] at hG ⊢
  clear he
  have HH := Lib.hid (And.intro hS hB)
  have b0 := (hB.touch ((Touch.refl [] W).drew) (by simp)).cell 0
  have x0 := cell_quiet ((Touch.refl [] W).drew) cq0
  have x1 := cell_quiet ((Touch.refl [] W).drew) cq1
  clear hS hB hA hg hfd hF hok hl hpre hc cq0 cq1
  show Calls Tryz.prog 144 #[.slice (some ⟨ad, 0, none⟩) 2 c, .pointer (some ⟨b, 0, none⟩)] W _
  go_enter Tryz.func144, Tryz.ntmps144
  go_upto_region 1 with fail
  go_region_with (go_at_call 145; refine hG.mono ?_; rintro _ w1 ⟨rfl, hm, t1⟩; have HD : Hid (Done W s F S _ w1) := Done.mem HH.out.1 hm t1.of_drew; clear hm t1)
  all_goals go_wp2_with fail
  all_goals go_ret
  all_goals exact ⟨rfl, HD.out⟩
set_option maxHeartbeats 2000000 in
theorem fill_tot : OpSem 80 3 (fun _ _ => True) (fun l S => (([], pieE S.n (l.getD 0 0) (l.getD 1 0)), { S with bs := filT S.bs S.n (l.getD 0 0) (l.getD 1 0) (l.getD 2 0 % 256) })) := by
  intro W B s F S t f first cap l lv hok hS hF hfd
  obtain ⟨b, C, hC, hb, hA, hB⟩ := found_memory hfd rfl rfl
  obtain ⟨g, _, hg, rfl, rfl, rfl, rfl⟩ := act_open (hA : ActAt C 3 220 154 (.func (.func 149) #[] #[.pointer (some ⟨b, 0, none⟩)]) _ W) (Nat.zero_le _)
  refine ⟨rfl, enters_of Tryz.func220 (by kernel_rfl) rfl, fun hl hpre hc => ActDone.post (tells_clo hg (enters_of Tryz.func149 (by kernel_rfl) rfl) ?_)⟩
  obtain ⟨ad, c, q0, q1, q2, e, rfl, cq0, cq1, cq2⟩ := hc.three hl
  subst e
  show Calls Tryz.prog _ _ W fun e w' => e = .returned (.int .i64 (pieE S.n q0 q1)) ∧ Done W s F S { S with bs := filT S.bs S.n q0 q1 (q2 % 256) } w'
  have hG := Fill_tot (hS.mem.quiet ((Touch.refl [] W).drew)) q0 q1 (q2 % 256) (by omega)
  obtain ⟨ee, he⟩ : ∃ z, pieE S.n q0 q1 = z := ⟨_, rfl⟩
  rw [he] at hG ⊢
  clear he
  have HH := Lib.hid (And.intro hS hB)
  have b0 := (hB.touch ((Touch.refl [] W).drew) (by simp)).cell 0
  have x0 := cell_quiet ((Touch.refl [] W).drew) cq0
  have x1 := cell_quiet ((Touch.refl [] W).drew) cq1
  have x2 := cell_quiet ((Touch.refl [] W).drew) cq2
  clear hS hB hA hg hfd hF hok hl hpre hc cq0 cq1 cq2
  show Calls Tryz.prog 149 #[.slice (some ⟨ad, 0, none⟩) 3 c, .pointer (some ⟨b, 0, none⟩)] W _
  go_enter Tryz.func149, Tryz.ntmps149
  go_upto_region 1 with fail
  go_region_with (go_at_call 150; refine hG.mono ?_; rintro _ w1 ⟨rfl, hm, t1⟩; have HD : Hid (Done W s F S _ w1) := Done.mem HH.out.1 hm t1.of_drew; clear hm t1)
  all_goals go_wp2_with fail
  all_goals go_ret
  all_goals exact ⟨rfl, HD.out⟩
set_option maxHeartbeats 2000000 in
theorem move_tot : OpSem 81 3 (fun _ _ => True) (fun l S => (([], movE S.n (l.getD 0 0) (l.getD 1 0) (l.getD 2 0)), { S with bs := movT S.bs S.n (l.getD 0 0) (l.getD 1 0) (l.getD 2 0) })) := by
  intro W B s F S t f first cap l lv hok hS hF hfd
  obtain ⟨b, C, hC, hb, hA, hB⟩ := found_memory hfd rfl rfl
  obtain ⟨g, _, hg, rfl, rfl, rfl, rfl⟩ := act_open (hA : ActAt C 3 220 154 (.func (.func 151) #[] #[.pointer (some ⟨b, 0, none⟩)]) _ W) (Nat.zero_le _)
  refine ⟨rfl, enters_of Tryz.func220 (by kernel_rfl) rfl, fun hl hpre hc => ActDone.post (tells_clo hg (enters_of Tryz.func151 (by kernel_rfl) rfl) ?_)⟩
  obtain ⟨ad, c, q0, q1, q2, e, rfl, cq0, cq1, cq2⟩ := hc.three hl
  subst e
  show Calls Tryz.prog _ _ W fun e w' => e = .returned (.int .i64 (movE S.n q0 q1 q2)) ∧ Done W s F S { S with bs := movT S.bs S.n q0 q1 q2 } w'
  have hG := Move_tot (hS.mem.quiet ((Touch.refl [] W).drew)) q0 q1 q2
  obtain ⟨ee, he⟩ : ∃ z, movE S.n q0 q1 q2 = z := ⟨_, rfl⟩
  rw [he] at hG ⊢
  clear he
  have HH := Lib.hid (And.intro hS hB)
  have b0 := (hB.touch ((Touch.refl [] W).drew) (by simp)).cell 0
  have x0 := cell_quiet ((Touch.refl [] W).drew) cq0
  have x1 := cell_quiet ((Touch.refl [] W).drew) cq1
  have x2 := cell_quiet ((Touch.refl [] W).drew) cq2
  clear hS hB hA hg hfd hF hok hl hpre hc cq0 cq1 cq2
  show Calls Tryz.prog 151 #[.slice (some ⟨ad, 0, none⟩) 3 c, .pointer (some ⟨b, 0, none⟩)] W _
  go_enter Tryz.func151, Tryz.ntmps151
  go_upto_region 1 with fail
  go_region_with (go_at_call 152; refine hG.mono ?_; rintro _ w1 ⟨rfl, hm, t1⟩; have HD : Hid (Done W s F S _ w1) := Done.mem HH.out.1 hm t1.of_drew; clear hm t1)
  all_goals go_wp2_with fail
  all_goals go_ret
  all_goals exact ⟨rfl, HD.out⟩
set_option maxHeartbeats 2000000 in
theorem allot_tot : OpSem 83 1 (fun _ _ => True) (fun l S => (([], allE S.n S.here (l.getD 0 0)), { S with here := allH S.n S.here (l.getD 0 0) })) := by
  intro W B s F S t f first cap l lv hok hS hF hfd
  obtain ⟨b, C, hC, hb, hA, hB⟩ := found_memory hfd rfl rfl
  obtain ⟨g, _, hg, rfl, rfl, rfl, rfl⟩ := act_open (hA : ActAt C 1 220 154 (.func (.func 154) #[] #[.pointer (some ⟨b, 0, none⟩)]) _ W) (Nat.zero_le _)
  refine ⟨rfl, enters_of Tryz.func220 (by kernel_rfl) rfl, fun hl hpre hc => ActDone.post (tells_clo hg (enters_of Tryz.func154 (by kernel_rfl) rfl) ?_)⟩
  obtain ⟨ad, c, q0, e, rfl, cq0⟩ := hc.one hl
  subst e
  show Calls Tryz.prog _ _ W fun e w' => e = .returned (.int .i64 (allE S.n S.here q0)) ∧ Done W s F S { S with here := allH S.n S.here q0 } w'
  have h5 : 512 ≤ S.n := by have := hok.2.2.1; omega
  have hG := Allot_tot (hS.mem.quiet ((Touch.refl [] W).drew)) h5 q0
  obtain ⟨ee, he⟩ : ∃ z, allE S.n S.here q0 = z := ⟨_, rfl⟩
  rw [he] at hG ⊢
  clear he
  have HH := Lib.hid (And.intro hS hB)
  have b0 := (hB.touch ((Touch.refl [] W).drew) (by simp)).cell 0
  have x0 := cell_quiet ((Touch.refl [] W).drew) cq0
  clear hS hB hA hg hfd hF hok hl hpre hc cq0
  show Calls Tryz.prog 154 #[.slice (some ⟨ad, 0, none⟩) 1 c, .pointer (some ⟨b, 0, none⟩)] W _
  go_enter Tryz.func154, Tryz.ntmps154
  go_upto_region 1 with fail
  go_region_with (go_at_call 68; refine hG.mono ?_; rintro _ w1 ⟨rfl, hm, t1⟩; have HD : Hid (Done W s F S _ w1) := Done.mem HH.out.1 hm t1.of_drew; clear hm t1)
  all_goals go_wp2_with fail
  all_goals go_ret
  all_goals exact ⟨rfl, HD.out⟩
set_option maxHeartbeats 2000000 in
theorem comma_tot : OpSem 84 1 (fun _ _ => True) (fun l S => (([], comE S.n S.here), { S with bs := comB S.bs S.n S.here (l.getD 0 0), here := comH S.n S.here })) := by
  intro W B s F S t f first cap l lv hok hS hF hfd
  obtain ⟨b, C, hC, hb, hA, hB⟩ := found_memory hfd rfl rfl
  obtain ⟨g, _, hg, rfl, rfl, rfl, rfl⟩ := act_open (hA : ActAt C 1 220 154 (.func (.func 155) #[] #[.pointer (some ⟨b, 0, none⟩)]) _ W) (Nat.zero_le _)
  refine ⟨rfl, enters_of Tryz.func220 (by kernel_rfl) rfl, fun hl hpre hc => ActDone.post (tells_clo hg (enters_of Tryz.func155 (by kernel_rfl) rfl) ?_)⟩
  obtain ⟨ad, c, q0, e, rfl, cq0⟩ := hc.one hl
  subst e
  show Calls Tryz.prog _ _ W fun e w' => e = .returned (.int .i64 (comE S.n S.here)) ∧ Done W s F S { S with bs := comB S.bs S.n S.here q0, here := comH S.n S.here } w'
  have h5 : 512 ≤ S.n := by have := hok.2.2.1; omega
  have hG := Comma_tot (hS.mem.quiet ((Touch.refl [] W).drew)) h5 q0
  obtain ⟨ee, he⟩ : ∃ z, comE S.n S.here = z := ⟨_, rfl⟩
  rw [he] at hG ⊢
  clear he
  have HH := Lib.hid (And.intro hS hB)
  have b0 := (hB.touch ((Touch.refl [] W).drew) (by simp)).cell 0
  have x0 := cell_quiet ((Touch.refl [] W).drew) cq0
  clear hS hB hA hg hfd hF hok hl hpre hc cq0
  show Calls Tryz.prog 155 #[.slice (some ⟨ad, 0, none⟩) 1 c, .pointer (some ⟨b, 0, none⟩)] W _
  go_enter Tryz.func155, Tryz.ntmps155
  go_upto_region 1 with fail
  go_region_with (go_at_call 40; refine hG.mono ?_; rintro _ w1 ⟨rfl, hm, t1⟩; have HD : Hid (Done W s F S _ w1) := Done.mem HH.out.1 hm t1.of_drew; clear hm t1)
  all_goals go_wp2_with fail
  all_goals go_ret
  all_goals exact ⟨rfl, HD.out⟩
set_option maxHeartbeats 2000000 in
theorem ccomma_tot : OpSem 85 1 (fun _ _ => True) (fun l S => (([], ccoE S.n S.here), { S with bs := ccoB S.bs S.n S.here (l.getD 0 0 % 256), here := allH S.n S.here 1 })) := by
  intro W B s F S t f first cap l lv hok hS hF hfd
  obtain ⟨b, C, hC, hb, hA, hB⟩ := found_memory hfd rfl rfl
  obtain ⟨g, _, hg, rfl, rfl, rfl, rfl⟩ := act_open (hA : ActAt C 1 220 154 (.func (.func 156) #[] #[.pointer (some ⟨b, 0, none⟩)]) _ W) (Nat.zero_le _)
  refine ⟨rfl, enters_of Tryz.func220 (by kernel_rfl) rfl, fun hl hpre hc => ActDone.post (tells_clo hg (enters_of Tryz.func156 (by kernel_rfl) rfl) ?_)⟩
  obtain ⟨ad, c, q0, e, rfl, cq0⟩ := hc.one hl
  subst e
  show Calls Tryz.prog _ _ W fun e w' => e = .returned (.int .i64 (ccoE S.n S.here)) ∧ Done W s F S { S with bs := ccoB S.bs S.n S.here (q0 % 256), here := allH S.n S.here 1 } w'
  have h5 : 512 ≤ S.n := by have := hok.2.2.1; omega
  have hG := CComma_tot (hS.mem.quiet ((Touch.refl [] W).drew)) h5 (q0 % 256) (by omega)
  obtain ⟨ee, he⟩ : ∃ z, ccoE S.n S.here = z := ⟨_, rfl⟩
  rw [he] at hG ⊢
  clear he
  have HH := Lib.hid (And.intro hS hB)
  have b0 := (hB.touch ((Touch.refl [] W).drew) (by simp)).cell 0
  have x0 := cell_quiet ((Touch.refl [] W).drew) cq0
  clear hS hB hA hg hfd hF hok hl hpre hc cq0
  show Calls Tryz.prog 156 #[.slice (some ⟨ad, 0, none⟩) 1 c, .pointer (some ⟨b, 0, none⟩)] W _
  go_enter Tryz.func156, Tryz.ntmps156
  go_upto_region 1 with fail
  go_region_with (go_at_call 157; refine hG.mono ?_; rintro _ w1 ⟨rfl, hm, t1⟩; have HD : Hid (Done W s F S _ w1) := Done.mem HH.out.1 hm t1.of_drew; clear hm t1)
  all_goals go_wp2_with fail
  all_goals go_ret
  all_goals exact ⟨rfl, HD.out⟩
set_option maxHeartbeats 2000000 in
theorem align_tot : OpSem 86 0 (fun _ _ => True) (fun _ S => (([], allE S.n S.here (alignK S.here)), { S with here := allH S.n S.here (alignK S.here) })) := by
  intro W B s F S t f first cap l lv hok hS hF hfd
  obtain ⟨b, C, hC, hb, hA, hB⟩ := found_memory hfd rfl rfl
  obtain ⟨g, _, hg, rfl, rfl, rfl, rfl⟩ := act_open (hA : ActAt C 0 220 154 (.func (.func 158) #[] #[.pointer (some ⟨b, 0, none⟩)]) _ W) (Nat.zero_le _)
  refine ⟨rfl, enters_of Tryz.func220 (by kernel_rfl) rfl, fun hl hpre hc => ActDone.post (tells_clo hg (enters_of Tryz.func158 (by kernel_rfl) rfl) ?_)⟩
  show Calls Tryz.prog _ _ W fun e w' => e = .returned (.int .i64 (allE S.n S.here (alignK S.here))) ∧ Done W s F S { S with here := allH S.n S.here (alignK S.here) } w'
  have h5 : 512 ≤ S.n := by have := hok.2.2.1; omega
  have hG := Align_tot (hS.mem.quiet (Touch.refl [] W)) h5
  obtain ⟨ee, he⟩ : ∃ z, allE S.n S.here (alignK S.here) = z := ⟨_, rfl⟩
  rw [he] at hG ⊢
  clear he
  have HH := Lib.hid (And.intro hS hB)
  have b0 := (hB.touch ((Touch.refl [] W).drew) (by simp)).cell 0
  clear hS hB hA hg hfd hF hok hl hpre hc 
  show Calls Tryz.prog 158 #[lv, .pointer (some ⟨b, 0, none⟩)] W _
  go_enter Tryz.func158, Tryz.ntmps158
  clear b0
  have b0 := HH.out.2.cell 0
  go_wp2_with fail
  refine hG.mono ?_
  rintro _ w1 ⟨rfl, hm, t1⟩
  have HD : Hid (Done W s F S _ w1) := Done.mem HH.out.1 hm t1
  clear hm t1
  all_goals go_wp2_with fail
  all_goals go_ret
  all_goals exact ⟨rfl, HD.out⟩
set_option maxHeartbeats 2000000 in
theorem bytes_tot : OpSem 88 1 (fun _ _ => True) (fun l S => (([wrap64 (l.getD 0 0 * 8)], 0), S)) := by
  intro W B s F S t f first cap l lv hok hS hF hfd
  obtain ⟨b, C, hC, hb, hA, hB⟩ := found_memory hfd rfl rfl
  obtain ⟨g, _, hg, rfl, rfl, rfl, rfl⟩ := act_open (hA : ActAt C 1 213 149 (.func (.func 161) #[] #[]) _ W) (Nat.zero_le _)
  refine ⟨rfl, enters_of Tryz.func213 (by kernel_rfl) rfl, fun hl hpre hc => ActDone.post (gives_clo hg (enters_of Tryz.func161 (by kernel_rfl) rfl) ?_)⟩
  obtain ⟨ad, c, q0, e, rfl, cq0⟩ := hc.one hl
  subst e
  show Calls Tryz.prog _ _ W fun e w' => e = .returned (.int .i64 (wrap64 (q0 * 8))) ∧ Done W s F S S w'
  have HH := Lib.hid (And.intro hS hB)
  have b0 := (hB.touch ((Touch.refl [] W).drew) (by simp)).cell 0
  have x0 := cell_quiet ((Touch.refl [] W).drew) cq0
  clear hS hB hA hg hfd hF hok hl hpre hc 
  show Calls Tryz.prog 161 #[.slice (some ⟨ad, 0, none⟩) 1 c] W _
  go_enter Tryz.func161, Tryz.ntmps161
  have HD := Lib.hid (Done.self HH.out.1 (Touch.refl [] W))
  go_wp2_with fail
  go_ret
  exact ⟨rfl, HD.out⟩
set_option maxHeartbeats 2000000 in
theorem aligned_tot : OpSem 87 1 (fun _ _ => True) (fun l S => (([bits .andNot .i64 (wrap64 (wrap64 (l.getD 0 0 + 8) - 1)) 7], 0), S)) := by
  intro W B s F S t f first cap l lv hok hS hF hfd
  obtain ⟨b, C, hC, hb, hA, hB⟩ := found_memory hfd rfl rfl
  obtain ⟨g, _, hg, rfl, rfl, rfl, rfl⟩ := act_open (hA : ActAt C 1 213 149 (.func (.func 160) #[] #[]) _ W) (Nat.zero_le _)
  refine ⟨rfl, enters_of Tryz.func213 (by kernel_rfl) rfl, fun hl hpre hc => ActDone.post (gives_clo hg (enters_of Tryz.func160 (by kernel_rfl) rfl) ?_)⟩
  obtain ⟨ad, c, q0, e, rfl, cq0⟩ := hc.one hl
  subst e
  show Calls Tryz.prog _ _ W fun e w' => e = .returned (.int .i64 (bits .andNot .i64 (wrap64 (wrap64 (q0 + 8) - 1)) 7)) ∧ Done W s F S S w'
  have HH := Lib.hid (And.intro hS hB)
  have b0 := (hB.touch ((Touch.refl [] W).drew) (by simp)).cell 0
  have x0 := cell_quiet ((Touch.refl [] W).drew) cq0
  clear hS hB hA hg hfd hF hok hl hpre hc 
  show Calls Tryz.prog 160 #[.slice (some ⟨ad, 0, none⟩) 1 c] W _
  go_enter Tryz.func160, Tryz.ntmps160
  have HD := Lib.hid (Done.self HH.out.1 (Touch.refl [] W))
  go_wp2_with fail
  go_ret
  exact ⟨rfl, HD.out⟩
set_option maxHeartbeats 2000000 in
theorem count_tot : OpSem 89 1 (fun _ _ => True) (fun l S => (([wrap64 (l.getD 0 0 + 1), gbV S.bs S.n (l.getD 0 0)], pieE S.n (l.getD 0 0) 1), S)) := by
  intro W B s F S t f first cap l lv hok hS hF hfd
  obtain ⟨b, C, hC, hb, hA, hB⟩ := found_memory hfd rfl rfl
  obtain ⟨g, _, hg, rfl, rfl, rfl, rfl⟩ := act_open (hA : ActAt C 1 217 144 (.func (.func 162) #[] #[.pointer (some ⟨b, 0, none⟩)]) _ W) (Nat.zero_le _)
  refine ⟨rfl, enters_of Tryz.func217 (by kernel_rfl) rfl, fun hl hpre hc => ActDone.post (divides_clo hg (enters_of Tryz.func162 (by kernel_rfl) rfl) ?_)⟩
  obtain ⟨ad, c, q0, e, rfl, cq0⟩ := hc.one hl
  subst e
  show Calls Tryz.prog _ _ W fun e w' => e = .returned (.tuple #[.int .i64 (wrap64 (q0 + 1)), .int .i64 (gbV S.bs S.n q0), .int .i64 (pieE S.n q0 1)]) ∧ Done W s F S S w'
  have hG := GetByte_tot (hS.mem.quiet ((Touch.refl [] W).drew)) q0
  have hby := gbV_byte hS.mem q0
  obtain ⟨y, hy⟩ : ∃ z, gbV S.bs S.n q0 = z := ⟨_, rfl⟩
  rw [hy] at hG hby ⊢
  obtain ⟨ee, he⟩ : ∃ z, pieE S.n q0 1 = z := ⟨_, rfl⟩
  rw [he] at hG ⊢
  clear hy he
  have ew : IntKind.i64.wrap y = y := by rw [IntKind.wrap_i64]; omega
  have HH := Lib.hid (And.intro hS hB)
  have b0 := (hB.touch ((Touch.refl [] W).drew) (by simp)).cell 0
  have x0 := cell_quiet ((Touch.refl [] W).drew) cq0
  clear hS hB hA hg hfd hF hok hl hpre hc cq0
  show Calls Tryz.prog 162 #[.slice (some ⟨ad, 0, none⟩) 1 c, .pointer (some ⟨b, 0, none⟩)] W _
  go_enter Tryz.func162, Tryz.ntmps162
  go_upto_region 1 with fail
  go_region_with (go_at_call 141; refine hG.mono ?_; rintro _ w1 ⟨rfl, t1⟩; have y0 := cell_quiet t1 x0; have HD : Hid (Done W s F S S w1) := Done.self HH.out.1 t1.of_drew; clear t1)
  all_goals go_wp2_with fail
  all_goals go_ret3
  all_goals exact ⟨rfl, HD.out⟩
end Go.Proofs.YtkbchpaofmlhgaaGreatDoor
