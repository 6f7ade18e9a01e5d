/- More operations of prim's memory map. Printed by memops.py. -/
import Derived.Test.YtkbchpaofmlhgaaGreatDoorMemBase
namespace Go.Proofs.YtkbchpaofmlhgaaGreatDoor
open Go.RowKit

set_option maxHeartbeats 1000000 in
theorem put2_sem : OpSem 79 3 (fun l S => ∃ (x y : Int) (p : Nat), l = [x, y, (p : Int)] ∧ p + 16 ≤ S.n ∧ p % 8 = 0) (fun l S => (([], 0), { S with bs := putF (putF S.bs ((l.getD 2 0).toNat + 8) (l.getD 0 0) 8) (l.getD 2 0).toNat (l.getD 1 0) 8 })) := by
  intro W B s F S t f first cap l lv hok hS hF hfd
  obtain ⟨b, C, hC, hb, hA, hB⟩ := found_memory hfd rfl rfl
  obtain ⟨g, _, hg, rfl, rfl, rfl, rfl⟩ := act_open (hA : ActAt C 3 220 154 (.func (.func 148) #[.pointer (some ⟨s, 0, none⟩)] #[]) _ W) (Nat.zero_le _)
  refine ⟨rfl, enters_of Tryz.func220 (by kernel_rfl) rfl, fun hl hpre hc => ActDone.post (tells_clo hg (enters_of Tryz.func148 (by kernel_rfl) rfl) ?_)⟩
  obtain ⟨x, y, p, rfl, hp, h8⟩ := hpre
  obtain ⟨ad, c, q0, q1, q2, e, rfl, cq0, cq1, cq2⟩ := hc.three hl
  injection e with e1 e
  injection e with e2 e
  injection e with e3 e
  subst e1 e2 e3
  clear e
  show Calls Tryz.prog _ _ W fun e w' => e = .returned (.int .i64 0) ∧ Done W s F S { S with bs := putF (putF S.bs (p + 8) x 8) p y 8 } w'
  have hsm := hS.mem.small
  have s2 : W.cell? ⟨s, 2, none⟩ = some (.pointer (some ⟨S.m, 0, none⟩)) := by
    obtain ⟨FS, ov, mv, hp, _⟩ := hS
    exact hp.blk.cell 2
  have z2 := cell_quiet ((Touch.refl [] W).drew) s2
  have hne : ad ∉ [S.m, S.g] := by
    intro hm
    simp only [List.mem_cons, List.not_mem_nil, or_false] at hm
    rcases hm with rfl | rfl
    · have h0 := hS.mem.blk.cell 0
      rw [cq0] at h0
      simp at h0
    · have h0 := hS.mem.cell (i := 0) (by omega)
      rw [cq0] at h0
      simp at h0
  have hns : s ∉ [S.m, S.g] := by
    obtain ⟨FS, ov, mv, hp, _⟩ := hS
    intro hm
    simp only [List.mem_cons, List.not_mem_nil, or_false] at hm
    rcases hm with rfl | rfl
    · exact hp.blk.ty.ne hp.mem.blk.ty (by decide) rfl
    · exact hp.blk.ty.ne hp.mem.row.ty (by decide) rfl
  have hG := Get_ok (hS.mem.quiet ((Touch.refl [] W).drew)) p (by omega) h8
  have hP := fun w (h : MemAt w S.m S.g S.n S.bs S.here) => MPut_ok h (p + 8) x (by omega) (by omega)
  have hR := fun w (h : MemAt w S.m S.g S.n (putF S.bs (p + 8) x 8) S.here) => MPut_ok h p y (by omega) h8
  have ew : IntKind.i64.wrap ((p : Int) + 8) = (p + 8 : Nat) := by rw [IntKind.wrap_i64]; omega
  have HH := Lib.hid (And.intro hS hB)
  have b0 := (hB.touch ((Touch.refl [] W).drew) (by simp)).cell 0
  have x0 := cell_quiet ((Touch.refl [] W).drew) cq0
  have x1 := cell_quiet ((Touch.refl [] W).drew) cq1
  have x2 := cell_quiet ((Touch.refl [] W).drew) cq2
  clear hS hB hA hg hfd hc hF 
  show Calls Tryz.prog 148 #[.pointer (some ⟨s, 0, none⟩), .slice (some ⟨ad, 0, none⟩) 3 c] W _
  go_enter Tryz.func148, Tryz.ntmps148
  go_upto_region 1 with fail
  go_cut [5, 6] from 8 to 18 (fun xv ev wx => xv = .int .i64 (getF S.bs p) ∧ ev = .int .i64 0 ∧ Touch [] W wx)
  case first =>
    go_region_with (go_at_call 47; refine hG.mono ?_; rintro _ w1 ⟨rfl, t1⟩)
    all_goals (go_wp2_with fail; go_meet; exact ⟨rfl, rfl, t1.of_drew⟩)
  case rest =>
    obtain ⟨rfl, rfl, t1⟩ := hcut
    clear hG x0 x1 x2 z2
    have x0 := cell_quiet t1.drew cq0
    have x1 := cell_quiet t1.drew cq1
    have x2 := cell_quiet t1.drew cq2
    have z2 := cell_quiet t1.drew s2
    have hP := hP _ (HH.out.1.mem.quiet t1.drew)
    have T1 := Lib.hid t1.drew
    clear t1
    go_upto_region 4 with fail
    go_cut [7] from 22 to 33 (fun ev wy => ev = .int .i64 0 ∧ MemAt wy S.m S.g S.n (putF S.bs (p + 8) x 8) S.here ∧ Touch [S.m, S.g] W wy)
    case first =>
      go_region_with (go_at_call 69; refine hP.mono ?_; rintro _ w2 ⟨rfl, hm, t2⟩)
      all_goals (go_wp2_with fail; go_meet; exact ⟨rfl, hm, (T1.out.mono (by simp)).trans (t2.mono (G := [S.m, S.g]) (fun g hg => .inl (by simp only [List.mem_singleton] at hg; subst hg; simp))) (fun g hg => .inl hg)⟩)
    case rest =>
      obtain ⟨rfl, hm, t2⟩ := hcut
      clear hP x0 x1 x2 z2
      have x0 := cell_keep t2.drew cq0 hne
      have x1 := cell_keep t2.drew cq1 hne
      have x2 := cell_keep t2.drew cq2 hne
      have z2 := cell_keep t2.drew s2 hns
      have hR := hR _ (hm.quiet (Touch.refl [] _).drew)
      have T2 := Lib.hid t2.drew
      clear t2 hm cq0 cq1 cq2 s2
      go_upto_region 7 with fail
      go_region_with (go_at_call 69; refine hR.mono ?_; rintro _ w3 ⟨rfl, hm, t3⟩; have HD : Hid (Done W s F S _ w3) := Done.mem HH.out.1 hm (T2.out.trans (t3.mono (G := [S.m, S.g]) (fun g hg => .inl (by simp only [List.mem_singleton] at hg; subst hg; simp))) (fun g hg => .inl hg)); clear hm t3)
      all_goals go_wp2_with fail
      all_goals go_ret
      all_goals exact ⟨rfl, HD.out⟩
set_option maxHeartbeats 1000000 in
theorem fill_sem : OpSem 80 3 (fun l S => ∃ (p k : Nat) (x : Int), l = [(p : Int), (k : Int), x] ∧ p + k ≤ S.n) (fun l S => (([], 0), { S with bs := filL S.bs (l.getD 0 0).toNat (l.getD 2 0 % 256) (l.getD 1 0).toNat })) := by
  intro W B s F S t f first cap l lv hok hS hF hfd
  obtain ⟨b, C, hC, hb, hA, hB⟩ := found_memory hfd rfl rfl
  obtain ⟨g, _, hg, rfl, rfl, rfl, rfl⟩ := act_open (hA : ActAt C 3 220 154 (.func (.func 149) #[] #[.pointer (some ⟨b, 0, none⟩)]) _ W) (Nat.zero_le _)
  refine ⟨rfl, enters_of Tryz.func220 (by kernel_rfl) rfl, fun hl hpre hc => ActDone.post (tells_clo hg (enters_of Tryz.func149 (by kernel_rfl) rfl) ?_)⟩
  obtain ⟨p, k, x, rfl, hp⟩ := hpre
  obtain ⟨ad, c, q0, q1, q2, e, rfl, cq0, cq1, cq2⟩ := hc.three hl
  injection e with e1 e
  injection e with e2 e
  injection e with e3 e
  subst e1 e2 e3
  clear e
  show Calls Tryz.prog _ _ W fun e w' => e = .returned (.int .i64 0) ∧ Done W s F S { S with bs := filL S.bs p (x % 256) k } w'
  have hG := MFill_ok (hS.mem.quiet ((Touch.refl [] W).drew)) p k (x % 256) (by omega) hp
  have HH := Lib.hid (And.intro hS hB)
  have b0 := (hB.touch ((Touch.refl [] W).drew) (by simp)).cell 0
  have x0 := cell_quiet ((Touch.refl [] W).drew) cq0
  have x1 := cell_quiet ((Touch.refl [] W).drew) cq1
  have x2 := cell_quiet ((Touch.refl [] W).drew) cq2
  clear hS hB hA hg hfd hc hF cq0 cq1 cq2
  show Calls Tryz.prog 149 #[.slice (some ⟨ad, 0, none⟩) 3 c, .pointer (some ⟨b, 0, none⟩)] W _
  go_enter Tryz.func149, Tryz.ntmps149
  go_upto_region 1 with fail
  go_region_with (go_at_call 150; refine hG.mono ?_; rintro _ w1 ⟨rfl, hm, t1⟩; have HD : Hid (Done W s F S _ w1) := Done.mem HH.out.1 hm (t1.of_drew.mono (fun g hg => .inl (by simp only [List.mem_singleton] at hg; subst hg; simp))); clear hm t1)
  all_goals go_wp2_with fail
  all_goals go_ret
  all_goals exact ⟨rfl, HD.out⟩
end Go.Proofs.YtkbchpaofmlhgaaGreatDoor
