/- More operations of prim's memory map. Printed by memops.py. -/
import Derived.Test.YtkbchpaofmlhgaaGreatDoorMemBase
namespace Go.Proofs.YtkbchpaofmlhgaaGreatDoor
open Go.RowKit

set_option maxHeartbeats 1000000 in
theorem get_sem : OpSem 73 1 (fun l S => ∃ p : Nat, l = [(p : Int)] ∧ p + 8 ≤ S.n ∧ p % 8 = 0) (fun l S => (([getF S.bs (l.getD 0 0).toNat], 0), S)) := by
  intro W B s F S t f first cap l lv hok hS hF hfd
  obtain ⟨b, C, hC, hb, hA, hB⟩ := found_memory hfd rfl rfl
  obtain ⟨g, _, hg, rfl, rfl, rfl, rfl⟩ := act_open (hA : ActAt C 1 94 124 (.func (.func 139) #[] #[.pointer (some ⟨b, 0, none⟩)]) _ W) (Nat.zero_le _)
  refine ⟨rfl, enters_of Tryz.func94 (by kernel_rfl) rfl, fun hl hpre hc => ActDone.post (may_clo hg (enters_of Tryz.func139 (by kernel_rfl) rfl) ?_)⟩
  obtain ⟨p, rfl, hp, h8⟩ := hpre
  obtain ⟨ad, c, q0, e, rfl, cq0⟩ := hc.one hl
  injection e with e1 e
  subst e1
  clear e
  show Calls Tryz.prog _ _ W fun e w' => e = .returned (.tuple #[.int .i64 (getF S.bs p), .int .i64 0]) ∧ Done W s F S S w'
  have hG := Get_ok (hS.mem.quiet ((Touch.refl [] W).drew)) p hp h8
  have HH := Lib.hid (And.intro hS hB)
  have b0 := (hB.touch ((Touch.refl [] W).drew) (by simp)).cell 0
  have x0 := cell_quiet ((Touch.refl [] W).drew) cq0
  clear hS hB hA hg hfd hc hF cq0
  show Calls Tryz.prog 139 #[.slice (some ⟨ad, 0, none⟩) 1 c, .pointer (some ⟨b, 0, none⟩)] W _
  go_enter Tryz.func139, Tryz.ntmps139
  go_upto_region 1 with fail
  go_region_with (go_at_call 47; refine hG.mono ?_; rintro _ w1 ⟨rfl, t1⟩; have HD : Hid (Done W s F S S w1) := Done.self HH.out.1 t1.of_drew; clear t1)
  all_goals go_wp2_with fail
  all_goals go_ret2
  all_goals exact ⟨rfl, HD.out⟩
set_option maxHeartbeats 1000000 in
theorem put_sem : OpSem 74 2 (fun l S => ∃ (x : Int) (p : Nat), l = [x, (p : Int)] ∧ p + 8 ≤ S.n ∧ p % 8 = 0) (fun l S => (([], 0), { S with bs := putF S.bs (l.getD 1 0).toNat (l.getD 0 0) 8 })) := by
  intro W B s F S t f first cap l lv hok hS hF hfd
  obtain ⟨b, C, hC, hb, hA, hB⟩ := found_memory hfd rfl rfl
  obtain ⟨g, _, hg, rfl, rfl, rfl, rfl⟩ := act_open (hA : ActAt C 2 220 154 (.func (.func 143) #[] #[.pointer (some ⟨b, 0, none⟩)]) _ W) (Nat.zero_le _)
  refine ⟨rfl, enters_of Tryz.func220 (by kernel_rfl) rfl, fun hl hpre hc => ActDone.post (tells_clo hg (enters_of Tryz.func143 (by kernel_rfl) rfl) ?_)⟩
  obtain ⟨x, p, rfl, hp, h8⟩ := hpre
  obtain ⟨ad, c, q0, q1, e, rfl, cq0, cq1⟩ := hc.two hl
  injection e with e1 e
  injection e with e2 e
  subst e1 e2
  clear e
  show Calls Tryz.prog _ _ W fun e w' => e = .returned (.int .i64 0) ∧ Done W s F S { S with bs := putF S.bs p x 8 } w'
  have hG := MPut_ok (hS.mem.quiet ((Touch.refl [] W).drew)) p x hp h8
  have HH := Lib.hid (And.intro hS hB)
  have b0 := (hB.touch ((Touch.refl [] W).drew) (by simp)).cell 0
  have x0 := cell_quiet ((Touch.refl [] W).drew) cq0
  have x1 := cell_quiet ((Touch.refl [] W).drew) cq1
  clear hS hB hA hg hfd hc hF cq0 cq1
  show Calls Tryz.prog 143 #[.slice (some ⟨ad, 0, none⟩) 2 c, .pointer (some ⟨b, 0, none⟩)] W _
  go_enter Tryz.func143, Tryz.ntmps143
  go_upto_region 1 with fail
  go_region_with (go_at_call 69; refine hG.mono ?_; rintro _ w1 ⟨rfl, hm, t1⟩; have HD : Hid (Done W s F S _ w1) := Done.mem HH.out.1 hm (t1.of_drew.mono (fun g hg => .inl (by simp only [List.mem_singleton] at hg; subst hg; simp))); clear hm t1)
  all_goals go_wp2_with fail
  all_goals go_ret
  all_goals exact ⟨rfl, HD.out⟩
set_option maxHeartbeats 1000000 in
theorem getC_sem : OpSem 75 1 (fun l S => ∃ p : Nat, l = [(p : Int)] ∧ p < S.n) (fun l S => (([S.bs.getD (l.getD 0 0).toNat 0], 0), S)) := by
  intro W B s F S t f first cap l lv hok hS hF hfd
  obtain ⟨b, C, hC, hb, hA, hB⟩ := found_memory hfd rfl rfl
  obtain ⟨g, _, hg, rfl, rfl, rfl, rfl⟩ := act_open (hA : ActAt C 1 94 124 (.func (.func 140) #[] #[.pointer (some ⟨b, 0, none⟩)]) _ W) (Nat.zero_le _)
  refine ⟨rfl, enters_of Tryz.func94 (by kernel_rfl) rfl, fun hl hpre hc => ActDone.post (may_clo hg (enters_of Tryz.func140 (by kernel_rfl) rfl) ?_)⟩
  obtain ⟨p, rfl, hp⟩ := hpre
  obtain ⟨ad, c, q0, e, rfl, cq0⟩ := hc.one hl
  injection e with e1 e
  subst e1
  clear e
  show Calls Tryz.prog _ _ W fun e w' => e = .returned (.tuple #[.int .i64 (S.bs.getD p 0), .int .i64 0]) ∧ Done W s F S S w'
  have hG := MGetByte_ok (hS.mem.quiet ((Touch.refl [] W).drew)) p hp
  have hby := hS.mem.byte.getD p
  obtain ⟨y, hy⟩ : ∃ y, S.bs.getD p 0 = y := ⟨_, rfl⟩
  rw [hy] at hG hby ⊢
  clear hy
  have ew : IntKind.i64.wrap y = y := by rw [IntKind.wrap_i64]; omega
  have HH := Lib.hid (And.intro hS hB)
  have b0 := (hB.touch ((Touch.refl [] W).drew) (by simp)).cell 0
  have x0 := cell_quiet ((Touch.refl [] W).drew) cq0
  clear hS hB hA hg hfd hc hF cq0
  show Calls Tryz.prog 140 #[.slice (some ⟨ad, 0, none⟩) 1 c, .pointer (some ⟨b, 0, none⟩)] W _
  go_enter Tryz.func140, Tryz.ntmps140
  go_upto_region 1 with fail
  go_region_with (go_at_call 141; refine hG.mono ?_; rintro _ w1 ⟨rfl, t1⟩; have HD : Hid (Done W s F S S w1) := Done.self HH.out.1 t1.of_drew; clear t1)
  all_goals go_wp2_with fail
  all_goals go_ret2
  all_goals exact ⟨rfl, HD.out⟩
set_option maxHeartbeats 1000000 in
theorem putC_sem : OpSem 76 2 (fun l S => ∃ (x : Int) (p : Nat), l = [x, (p : Int)] ∧ p < S.n) (fun l S => (([], 0), { S with bs := S.bs.set (l.getD 1 0).toNat (l.getD 0 0 % 256) })) := by
  intro W B s F S t f first cap l lv hok hS hF hfd
  obtain ⟨b, C, hC, hb, hA, hB⟩ := found_memory hfd rfl rfl
  obtain ⟨g, _, hg, rfl, rfl, rfl, rfl⟩ := act_open (hA : ActAt C 2 220 154 (.func (.func 144) #[] #[.pointer (some ⟨b, 0, none⟩)]) _ W) (Nat.zero_le _)
  refine ⟨rfl, enters_of Tryz.func220 (by kernel_rfl) rfl, fun hl hpre hc => ActDone.post (tells_clo hg (enters_of Tryz.func144 (by kernel_rfl) rfl) ?_)⟩
  obtain ⟨x, p, rfl, hp⟩ := hpre
  obtain ⟨ad, c, q0, q1, e, rfl, cq0, cq1⟩ := hc.two hl
  injection e with e1 e
  injection e with e2 e
  subst e1 e2
  clear e
  show Calls Tryz.prog _ _ W fun e w' => e = .returned (.int .i64 0) ∧ Done W s F S { S with bs := S.bs.set p (x % 256) } w'
  have hG := MPutByte_ok (hS.mem.quiet ((Touch.refl [] W).drew)) p (x % 256) (by omega) hp
  have HH := Lib.hid (And.intro hS hB)
  have b0 := (hB.touch ((Touch.refl [] W).drew) (by simp)).cell 0
  have x0 := cell_quiet ((Touch.refl [] W).drew) cq0
  have x1 := cell_quiet ((Touch.refl [] W).drew) cq1
  clear hS hB hA hg hfd hc hF cq0 cq1
  show Calls Tryz.prog 144 #[.slice (some ⟨ad, 0, none⟩) 2 c, .pointer (some ⟨b, 0, none⟩)] W _
  go_enter Tryz.func144, Tryz.ntmps144
  go_upto_region 1 with fail
  go_region_with (go_at_call 145; refine hG.mono ?_; rintro _ w1 ⟨rfl, hm, t1⟩; have HD : Hid (Done W s F S _ w1) := Done.mem HH.out.1 hm (t1.of_drew.mono (fun g hg => .inl (by simp only [List.mem_singleton] at hg; subst hg; simp))); clear hm t1)
  all_goals go_wp2_with fail
  all_goals go_ret
  all_goals exact ⟨rfl, HD.out⟩
set_option maxHeartbeats 1000000 in
theorem addTo_sem : OpSem 77 2 (fun l S => ∃ (x : Int) (p : Nat), l = [x, (p : Int)] ∧ p + 8 ≤ S.n ∧ p % 8 = 0) (fun l S => (([], 0), { S with bs := putF S.bs (l.getD 1 0).toNat (IntKind.i64.wrap (getF S.bs (l.getD 1 0).toNat + l.getD 0 0)) 8 })) := by
  intro W B s F S t f first cap l lv hok hS hF hfd
  obtain ⟨b, C, hC, hb, hA, hB⟩ := found_memory hfd rfl rfl
  obtain ⟨g, _, hg, rfl, rfl, rfl, rfl⟩ := act_open (hA : ActAt C 2 220 154 (.func (.func 146) #[] #[.pointer (some ⟨b, 0, none⟩)]) _ W) (Nat.zero_le _)
  refine ⟨rfl, enters_of Tryz.func220 (by kernel_rfl) rfl, fun hl hpre hc => ActDone.post (tells_clo hg (enters_of Tryz.func146 (by kernel_rfl) rfl) ?_)⟩
  obtain ⟨x, p, rfl, hp, h8⟩ := hpre
  obtain ⟨ad, c, q0, q1, e, rfl, cq0, cq1⟩ := hc.two hl
  injection e with e1 e
  injection e with e2 e
  subst e1 e2
  clear e
  show Calls Tryz.prog _ _ W fun e w' => e = .returned (.int .i64 0) ∧ Done W s F S { S with bs := putF S.bs p (IntKind.i64.wrap (getF S.bs p + x)) 8 } w'
  have hG := Get_ok (hS.mem.quiet ((Touch.refl [] W).drew)) p hp h8
  have hP := fun w (h : MemAt w S.m S.g S.n S.bs S.here) => MPut_ok h p (IntKind.i64.wrap (getF S.bs p + x)) hp h8
  have HH := Lib.hid (And.intro hS hB)
  have b0 := (hB.touch ((Touch.refl [] W).drew) (by simp)).cell 0
  have x0 := cell_quiet ((Touch.refl [] W).drew) cq0
  have x1 := cell_quiet ((Touch.refl [] W).drew) cq1
  clear hS hB hA hg hfd hc hF 
  show Calls Tryz.prog 146 #[.slice (some ⟨ad, 0, none⟩) 2 c, .pointer (some ⟨b, 0, none⟩)] W _
  go_enter Tryz.func146, Tryz.ntmps146
  go_upto_region 1 with fail
  go_cut [4, 5] from 6 to 13 (fun xv ev wx => xv = .int .i64 (getF S.bs p) ∧ ev = .int .i64 0 ∧ Touch [] W wx)
  case first =>
    go_region_with (go_at_call 47; refine hG.mono ?_; rintro _ w1 ⟨rfl, t1⟩)
    all_goals (go_wp2_with fail; go_meet; exact ⟨rfl, rfl, t1.of_drew⟩)
  case rest =>
    obtain ⟨rfl, rfl, t1⟩ := hcut
    clear hG b0 x0 x1
    have b0 := (HH.out.2.touch t1.drew (by simp)).cell 0
    have x0 := cell_quiet t1.drew cq0
    have x1 := cell_quiet t1.drew cq1
    have hP := hP _ (HH.out.1.mem.quiet t1.drew)
    have T1 := Lib.hid t1.drew
    clear t1 cq0 cq1
    go_upto_region 4 with fail
    go_region_with (go_at_call 69; refine hP.mono ?_; rintro _ w2 ⟨rfl, hm, t2⟩; have HD : Hid (Done W s F S _ w2) := Done.mem HH.out.1 hm ((T1.out.mono (by simp)).trans (t2.mono (G := [S.m, S.g]) (fun g hg => .inl (by simp only [List.mem_singleton] at hg; subst hg; simp))) (fun g hg => .inl hg)); clear hm t2)
    all_goals go_wp2_with fail
    all_goals go_ret
    all_goals exact ⟨rfl, HD.out⟩
set_option maxHeartbeats 1000000 in
theorem get2_sem : OpSem 78 1 (fun l S => ∃ p : Nat, l = [(p : Int)] ∧ p + 16 ≤ S.n ∧ p % 8 = 0) (fun l S => (([getF S.bs ((l.getD 0 0).toNat + 8), getF S.bs (l.getD 0 0).toNat], 0), S)) := by
  intro W B s F S t f first cap l lv hok hS hF hfd
  obtain ⟨b, C, hC, hb, hA, hB⟩ := found_memory hfd rfl rfl
  obtain ⟨g, _, hg, rfl, rfl, rfl, rfl⟩ := act_open (hA : ActAt C 1 217 144 (.func (.func 147) #[] #[.pointer (some ⟨b, 0, none⟩)]) _ W) (Nat.zero_le _)
  refine ⟨rfl, enters_of Tryz.func217 (by kernel_rfl) rfl, fun hl hpre hc => ActDone.post (divides_clo hg (enters_of Tryz.func147 (by kernel_rfl) rfl) ?_)⟩
  obtain ⟨p, rfl, hp, h8⟩ := hpre
  obtain ⟨ad, c, q0, e, rfl, cq0⟩ := hc.one hl
  injection e with e1 e
  subst e1
  clear e
  show Calls Tryz.prog _ _ W fun e w' => e = .returned (.tuple #[.int .i64 (getF S.bs (p + 8)), .int .i64 (getF S.bs p), .int .i64 0]) ∧ Done W s F S S w'
  have hsm := hS.mem.small
  have hG := Get_ok (hS.mem.quiet ((Touch.refl [] W).drew)) p (by omega) h8
  have hP := fun w (h : MemAt w S.m S.g S.n S.bs S.here) => Get_ok h (p + 8) (by omega) (by omega)
  have ew : IntKind.i64.wrap ((p : Int) + 8) = (p + 8 : Nat) := by rw [IntKind.wrap_i64]; omega
  have HH := Lib.hid (And.intro hS hB)
  have b0 := (hB.touch ((Touch.refl [] W).drew) (by simp)).cell 0
  have x0 := cell_quiet ((Touch.refl [] W).drew) cq0
  clear hS hB hA hg hfd hc hF 
  show Calls Tryz.prog 147 #[.slice (some ⟨ad, 0, none⟩) 1 c, .pointer (some ⟨b, 0, none⟩)] W _
  go_enter Tryz.func147, Tryz.ntmps147
  go_upto_region 1 with fail
  go_cut [6, 7] from 9 to 16 (fun xv ev wx => xv = .int .i64 (getF S.bs p) ∧ ev = .int .i64 0 ∧ Touch [] W wx)
  case first =>
    go_region_with (go_at_call 47; refine hG.mono ?_; rintro _ w1 ⟨rfl, t1⟩)
    all_goals (go_wp2_with fail; go_meet; exact ⟨rfl, rfl, t1.of_drew⟩)
  case rest =>
    obtain ⟨rfl, rfl, t1⟩ := hcut
    clear hG b0 x0
    have b0 := (HH.out.2.touch t1.drew (by simp)).cell 0
    have x0 := cell_quiet t1.drew cq0
    have hP := hP _ (HH.out.1.mem.quiet t1.drew)
    have T1 := Lib.hid t1.drew
    clear t1 cq0
    go_upto_region 4 with fail
    go_region_with (go_at_call 47; refine hP.mono ?_; rintro _ w2 ⟨rfl, t2⟩; have HD : Hid (Done W s F S S w2) := Done.self HH.out.1 (T1.out.trans t2 (by simp)); clear t2)
    all_goals go_wp2_with fail
    all_goals go_ret3
    all_goals exact ⟨rfl, HD.out⟩
set_option maxHeartbeats 1000000 in
theorem comma_sem : OpSem 84 1 (fun _ S => S.here % 8 = 0 ∧ S.here + 8 + 512 ≤ S.n) (fun l S => (([], 0), { S with bs := putF S.bs S.here (l.getD 0 0) 8, here := S.here + 8 })) := by
  intro W B s F S t f first cap l lv hok hS hF hfd
  obtain ⟨b, C, hC, hb, hA, hB⟩ := found_memory hfd rfl rfl
  obtain ⟨g, _, hg, rfl, rfl, rfl, rfl⟩ := act_open (hA : ActAt C 1 220 154 (.func (.func 155) #[] #[.pointer (some ⟨b, 0, none⟩)]) _ W) (Nat.zero_le _)
  refine ⟨rfl, enters_of Tryz.func220 (by kernel_rfl) rfl, fun hl hpre hc => ActDone.post (tells_clo hg (enters_of Tryz.func155 (by kernel_rfl) rfl) ?_)⟩
  obtain ⟨h8, hp⟩ := hpre
  obtain ⟨ad, c, q0, e, rfl, cq0⟩ := hc.one hl
  subst e
  show Calls Tryz.prog _ _ W fun e w' => e = .returned (.int .i64 0) ∧ Done W s F S { S with bs := putF S.bs S.here q0 8, here := S.here + 8 } w'
  have hG := Comma_ok (hS.mem.quiet ((Touch.refl [] W).drew)) q0 h8 hp
  have HH := Lib.hid (And.intro hS hB)
  have b0 := (hB.touch ((Touch.refl [] W).drew) (by simp)).cell 0
  have x0 := cell_quiet ((Touch.refl [] W).drew) cq0
  clear hS hB hA hg hfd hc hF cq0
  show Calls Tryz.prog 155 #[.slice (some ⟨ad, 0, none⟩) 1 c, .pointer (some ⟨b, 0, none⟩)] W _
  go_enter Tryz.func155, Tryz.ntmps155
  go_upto_region 1 with fail
  go_region_with (go_at_call 40; refine hG.mono ?_; rintro _ w1 ⟨rfl, hm, t1⟩; have HD : Hid (Done W s F S _ w1) := Done.mem HH.out.1 hm t1.of_drew; clear hm t1)
  all_goals go_wp2_with fail
  all_goals go_ret
  all_goals exact ⟨rfl, HD.out⟩
set_option maxHeartbeats 1000000 in
theorem aligned_sem : OpSem 87 1 (fun _ _ => True) (fun l S => (([bits .andNot .i64 (wrap64 (wrap64 (l.getD 0 0 + 8) - 1)) 7], 0), S)) := by
  intro W B s F S t f first cap l lv hok hS hF hfd
  obtain ⟨b, C, hC, hb, hA, hB⟩ := found_memory hfd rfl rfl
  obtain ⟨g, _, hg, rfl, rfl, rfl, rfl⟩ := act_open (hA : ActAt C 1 213 149 (.func (.func 160) #[] #[]) _ W) (Nat.zero_le _)
  refine ⟨rfl, enters_of Tryz.func213 (by kernel_rfl) rfl, fun hl hpre hc => ActDone.post (gives_clo hg (enters_of Tryz.func160 (by kernel_rfl) rfl) ?_)⟩
  obtain ⟨ad, c, q0, e, rfl, cq0⟩ := hc.one hl
  subst e
  show Calls Tryz.prog _ _ W fun e w' => e = .returned (.int .i64 (bits .andNot .i64 (wrap64 (wrap64 (q0 + 8) - 1)) 7)) ∧ Done W s F S S w'
  have HH := Lib.hid (And.intro hS hB)
  have b0 := (hB.touch ((Touch.refl [] W).drew) (by simp)).cell 0
  have x0 := cell_quiet ((Touch.refl [] W).drew) cq0
  clear hS hB hA hg hfd hc hF 
  show Calls Tryz.prog 160 #[.slice (some ⟨ad, 0, none⟩) 1 c] W _
  go_enter Tryz.func160, Tryz.ntmps160
  have HD := Lib.hid (Done.self HH.out.1 (Touch.refl [] W))
  go_wp2_with fail
  go_ret
  exact ⟨rfl, HD.out⟩
set_option maxHeartbeats 1000000 in
theorem count_sem : OpSem 89 1 (fun l S => ∃ p : Nat, l = [(p : Int)] ∧ p < S.n) (fun l S => (([l.getD 0 0 + 1, S.bs.getD (l.getD 0 0).toNat 0], 0), S)) := by
  intro W B s F S t f first cap l lv hok hS hF hfd
  obtain ⟨b, C, hC, hb, hA, hB⟩ := found_memory hfd rfl rfl
  obtain ⟨g, _, hg, rfl, rfl, rfl, rfl⟩ := act_open (hA : ActAt C 1 217 144 (.func (.func 162) #[] #[.pointer (some ⟨b, 0, none⟩)]) _ W) (Nat.zero_le _)
  refine ⟨rfl, enters_of Tryz.func217 (by kernel_rfl) rfl, fun hl hpre hc => ActDone.post (divides_clo hg (enters_of Tryz.func162 (by kernel_rfl) rfl) ?_)⟩
  obtain ⟨p, rfl, hp⟩ := hpre
  obtain ⟨ad, c, q0, e, rfl, cq0⟩ := hc.one hl
  injection e with e1 e
  subst e1
  clear e
  show Calls Tryz.prog _ _ W fun e w' => e = .returned (.tuple #[.int .i64 ((p : Int) + 1), .int .i64 (S.bs.getD p 0), .int .i64 0]) ∧ Done W s F S S w'
  have hsm := hS.mem.small
  have hG := MGetByte_ok (hS.mem.quiet ((Touch.refl [] W).drew)) p hp
  have hby := hS.mem.byte.getD p
  obtain ⟨y, hy⟩ : ∃ y, S.bs.getD p 0 = y := ⟨_, rfl⟩
  rw [hy] at hG hby ⊢
  clear hy
  have ew : IntKind.i64.wrap y = y := by rw [IntKind.wrap_i64]; omega
  have ev : IntKind.i64.wrap ((p : Int) + 1) = (p : Int) + 1 := by rw [IntKind.wrap_i64]; omega
  have HH := Lib.hid (And.intro hS hB)
  have b0 := (hB.touch ((Touch.refl [] W).drew) (by simp)).cell 0
  have x0 := cell_quiet ((Touch.refl [] W).drew) cq0
  clear hS hB hA hg hfd hc hF cq0
  show Calls Tryz.prog 162 #[.slice (some ⟨ad, 0, none⟩) 1 c, .pointer (some ⟨b, 0, none⟩)] W _
  go_enter Tryz.func162, Tryz.ntmps162
  go_upto_region 1 with fail
  go_region_with (go_at_call 141; refine hG.mono ?_; rintro _ w1 ⟨rfl, t1⟩; have y0 := cell_quiet t1 x0; have HD : Hid (Done W s F S S w1) := Done.self HH.out.1 t1.of_drew; clear t1)
  all_goals go_wp2_with fail
  all_goals go_ret3
  all_goals exact ⟨rfl, HD.out⟩
end Go.Proofs.YtkbchpaofmlhgaaGreatDoor
