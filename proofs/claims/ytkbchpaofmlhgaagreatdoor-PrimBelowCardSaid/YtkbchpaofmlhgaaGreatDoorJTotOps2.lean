import Derived.Test.YtkbchpaofmlhgaaGreatDoorJLiveA
import Derived.Test.YtkbchpaofmlhgaaGreatDoorJTotMem
/- More operations of prim's memory map, each at any cells. Printed by totmem.py. -/
namespace Go.Proofs.YtkbchpaofmlhgaaGreatDoor
open Go.RowKit

theorem putT_bad {bs : List Int} {n : Nat} {p x : Int} (h : ¬ getE n p = 0) : putT bs n p x = bs := by
  unfold putT
  unfold getE at h
  split
  · rename_i hk
    rw [if_pos hk] at h
    exact absurd rfl h
  · rfl
def g2X (bs : List Int) (n : Nat) (p : Int) : Int := if getE n p = 0 then getV bs n (IntKind.i64.wrap (p + 8)) else 0
def g2Y (bs : List Int) (n : Nat) (p : Int) : Int := if getE n p = 0 then getV bs n p else 0
def g2E (n : Nat) (p : Int) : Int := if getE n p = 0 then getE n (IntKind.i64.wrap (p + 8)) else getE n p
def p2E (n : Nat) (p : Int) : Int := if getE n p = 0 then (if getE n (IntKind.i64.wrap (p + 8)) = 0 then getE n p else getE n (IntKind.i64.wrap (p + 8))) else getE n p
def p2B (bs : List Int) (n : Nat) (p x y : Int) : List Int := if getE n p = 0 then (if getE n (IntKind.i64.wrap (p + 8)) = 0 then putT (putT bs n (IntKind.i64.wrap (p + 8)) x) n p y else bs) else bs
set_option maxHeartbeats 2000000 in
theorem addTo_tot : OpSem 77 2 (fun _ _ => True) (fun l S => (([], getE S.n (l.getD 1 0)), { S with bs := putT S.bs S.n (l.getD 1 0) (IntKind.i64.wrap (getV S.bs S.n (l.getD 1 0) + l.getD 0 0)) })) := by
  intro W B s F S t f first cap l lv hok hS hF hfd
  obtain ⟨b, C, hC, hb, hA, hB⟩ := found_memory hfd rfl rfl
  obtain ⟨g, _, hg, rfl, rfl, rfl, rfl⟩ := act_open (hA : ActAt C 2 220 154 (.func (.func 146) #[] #[.pointer (some ⟨b, 0, none⟩)]) _ W) (Nat.zero_le _)
  refine ⟨rfl, enters_of Tryz.func220 (by kernel_rfl) rfl, fun hl hpre hc => ActDone.post (tells_clo hg (enters_of Tryz.func146 (by kernel_rfl) rfl) ?_)⟩
  obtain ⟨ad, c, q0, q1, e, rfl, cq0, cq1⟩ := hc.two hl
  subst e
  show Calls Tryz.prog _ _ W fun e w' => e = .returned (.int .i64 (getE S.n q1)) ∧ Done W s F S { S with bs := putT S.bs S.n q1 (IntKind.i64.wrap (getV S.bs S.n q1 + q0)) } w'
  have hG := Get_tot (hS.mem.quiet ((Touch.refl [] W).drew)) q1
  have hP := fun w (h : MemAt w S.m S.g S.n S.bs S.here) => Put_tot h q1 (IntKind.i64.wrap (getV S.bs S.n q1 + q0))
  have hbad : ¬ getE S.n q1 = 0 → putT S.bs S.n q1 (IntKind.i64.wrap (getV S.bs S.n q1 + q0)) = S.bs := fun h => putT_bad h
  obtain ⟨y, hy⟩ : ∃ z, getV S.bs S.n q1 = z := ⟨_, rfl⟩
  rw [hy] at hG hP hbad ⊢
  obtain ⟨nb, hnb⟩ : ∃ z, putT S.bs S.n q1 (IntKind.i64.wrap (y + q0)) = z := ⟨_, rfl⟩
  rw [hnb] at hP hbad ⊢
  obtain ⟨ee, he⟩ : ∃ z, getE S.n q1 = z := ⟨_, rfl⟩
  rw [he] at hG hP hbad ⊢
  clear hy he hnb
  have HH := Lib.hid (And.intro hS hB)
  have b0 := (hB.touch ((Touch.refl [] W).drew) (by simp)).cell 0
  have x0 := cell_quiet ((Touch.refl [] W).drew) cq0
  have x1 := cell_quiet ((Touch.refl [] W).drew) cq1
  clear hS hB hA hg hfd hF hok hl hpre hc 
  show Calls Tryz.prog 146 #[.slice (some ⟨ad, 0, none⟩) 2 c, .pointer (some ⟨b, 0, none⟩)] W _
  go_enter Tryz.func146, Tryz.ntmps146
  go_upto_region 1 with fail
  go_cut [4, 5] from 6 to 13 (fun xv ev wx => xv = .int .i64 y ∧ ev = .int .i64 ee ∧ Touch [] W wx)
  case first =>
    go_region_with (go_at_call 47; refine hG.mono ?_; rintro _ w1 ⟨rfl, t1⟩)
    all_goals (go_wp2_with fail; go_meet; exact ⟨rfl, rfl, t1.of_drew⟩)
  case rest =>
    obtain ⟨rfl, rfl, t1⟩ := hcut
    clear hG b0 x0 x1
    by_cases he : ee = 0
    · clear hbad
      have b0 := (HH.out.2.touch t1.drew (by simp)).cell 0
      have x0 := cell_quiet t1.drew cq0
      have x1 := cell_quiet t1.drew cq1
      have hP := hP _ (HH.out.1.mem.quiet t1.drew)
      subst he
      have T1 := Lib.hid t1.drew
      clear t1 cq0 cq1
      go_upto_region 4 with fail
      go_region_with (go_at_call 69; refine hP.mono ?_; rintro _ w2 ⟨rfl, hm, t2⟩; have HD : Hid (Done W s F S _ w2) := Done.mem HH.out.1 hm ((T1.out.mono (by simp)).trans t2 (fun g hg => .inl hg)); clear hm t2)
      all_goals go_wp2_with fail
      all_goals go_ret
      all_goals exact ⟨rfl, HD.out⟩
    · have e := hbad he
      subst e
      have HD : Hid (Done W s F S S wc) := Done.self HH.out.1 t1
      clear hP hbad t1 cq0 cq1
      go_wp2_with fail
      go_ret
      exact ⟨rfl, HD.out⟩
set_option maxHeartbeats 2000000 in
theorem get2_tot : OpSem 78 1 (fun _ _ => True) (fun l S => (([g2X S.bs S.n (l.getD 0 0), g2Y S.bs S.n (l.getD 0 0)], g2E S.n (l.getD 0 0)), S)) := by
  intro W B s F S t f first cap l lv hok hS hF hfd
  obtain ⟨b, C, hC, hb, hA, hB⟩ := found_memory hfd rfl rfl
  obtain ⟨g, _, hg, rfl, rfl, rfl, rfl⟩ := act_open (hA : ActAt C 1 217 144 (.func (.func 147) #[] #[.pointer (some ⟨b, 0, none⟩)]) _ W) (Nat.zero_le _)
  refine ⟨rfl, enters_of Tryz.func217 (by kernel_rfl) rfl, fun hl hpre hc => ActDone.post (divides_clo hg (enters_of Tryz.func147 (by kernel_rfl) rfl) ?_)⟩
  obtain ⟨ad, c, q0, e, rfl, cq0⟩ := hc.one hl
  subst e
  show Calls Tryz.prog _ _ W fun e w' => e = .returned (.tuple #[.int .i64 (g2X S.bs S.n q0), .int .i64 (g2Y S.bs S.n q0), .int .i64 (g2E S.n q0)]) ∧ Done W s F S S w'
  have hG := Get_tot (hS.mem.quiet ((Touch.refl [] W).drew)) q0
  have hP := fun w (h : MemAt w S.m S.g S.n S.bs S.here) => Get_tot h (IntKind.i64.wrap (q0 + 8))
  have gx : g2X S.bs S.n q0 = if getE S.n q0 = 0 then getV S.bs S.n (IntKind.i64.wrap (q0 + 8)) else 0 := rfl
  have gy : g2Y S.bs S.n q0 = if getE S.n q0 = 0 then getV S.bs S.n q0 else 0 := rfl
  have ge : g2E S.n q0 = if getE S.n q0 = 0 then getE S.n (IntKind.i64.wrap (q0 + 8)) else getE S.n q0 := rfl
  rw [gx, gy, ge]
  clear gx gy ge
  obtain ⟨y, hy⟩ : ∃ z, getV S.bs S.n q0 = z := ⟨_, rfl⟩
  rw [hy] at hG ⊢
  obtain ⟨ee, he⟩ : ∃ z, getE S.n q0 = z := ⟨_, rfl⟩
  rw [he] at hG ⊢
  obtain ⟨y2, hy2⟩ : ∃ z, getV S.bs S.n (IntKind.i64.wrap (q0 + 8)) = z := ⟨_, rfl⟩
  rw [hy2] at hP ⊢
  obtain ⟨ee2, he2⟩ : ∃ z, getE S.n (IntKind.i64.wrap (q0 + 8)) = z := ⟨_, rfl⟩
  rw [he2] at hP ⊢
  clear hy he hy2 he2
  obtain ⟨rx, hrx⟩ : ∃ z, (if ee = 0 then y2 else 0) = z := ⟨_, rfl⟩
  obtain ⟨ry, hry⟩ : ∃ z, (if ee = 0 then y else 0) = z := ⟨_, rfl⟩
  obtain ⟨re, hre⟩ : ∃ z, (if ee = 0 then ee2 else ee) = z := ⟨_, rfl⟩
  rw [hrx, hry, hre]
  have HQ : Hid ((ee = 0 → rx = y2 ∧ ry = y ∧ re = ee2) ∧ (¬ ee = 0 → rx = 0 ∧ ry = 0 ∧ re = ee)) := ⟨fun h => ⟨by rw [← hrx, if_pos h], by rw [← hry, if_pos h], by rw [← hre, if_pos h]⟩, fun h => ⟨by rw [← hrx, if_neg h], by rw [← hry, if_neg h], by rw [← hre, if_neg h]⟩⟩
  clear hrx hry hre
  have HH := Lib.hid (And.intro hS hB)
  have b0 := (hB.touch ((Touch.refl [] W).drew) (by simp)).cell 0
  have x0 := cell_quiet ((Touch.refl [] W).drew) cq0
  clear hS hB hA hg hfd hF hok hl hpre hc 
  show Calls Tryz.prog 147 #[.slice (some ⟨ad, 0, none⟩) 1 c, .pointer (some ⟨b, 0, none⟩)] W _
  go_enter Tryz.func147, Tryz.ntmps147
  go_upto_region 1 with fail
  go_cut [6, 7] from 9 to 16 (fun xv ev wx => xv = .int .i64 y ∧ ev = .int .i64 ee ∧ Touch [] W wx)
  case first =>
    go_region_with (go_at_call 47; refine hG.mono ?_; rintro _ w1 ⟨rfl, t1⟩)
    all_goals (go_wp2_with fail; go_meet; exact ⟨rfl, rfl, t1.of_drew⟩)
  case rest =>
    obtain ⟨rfl, rfl, t1⟩ := hcut
    clear hG b0 x0
    by_cases he : ee = 0
    · have HX := Lib.hid (HQ.out.1 he)
      clear HQ
      subst he
      have b0 := (HH.out.2.touch t1.drew (by simp)).cell 0
      have x0 := cell_quiet t1.drew cq0
      have hP := hP _ (HH.out.1.mem.quiet t1.drew)
      have T1 := Lib.hid t1.drew
      clear t1 cq0
      go_upto_region 4 with fail
      go_region_with (go_at_call 47; refine hP.mono ?_; rintro _ w2 ⟨rfl, t2⟩; have HD : Hid (Done W s F S S w2) := Done.self HH.out.1 (T1.out.trans t2 (by simp)); clear t2)
      all_goals go_wp2_with fail
      all_goals go_ret3
      all_goals exact ⟨by rw [HX.out.1, HX.out.2.1, HX.out.2.2]; rfl, HD.out⟩
    · have HX := Lib.hid (HQ.out.2 he)
      clear HQ
      have HD : Hid (Done W s F S S wc) := Done.self HH.out.1 t1
      clear hP t1 cq0
      go_wp2_with fail
      go_ret3
      exact ⟨by rw [HX.out.1, HX.out.2.1, HX.out.2.2]; rfl, HD.out⟩
set_option maxHeartbeats 2000000 in
theorem put2_tot : OpSem 79 3 (fun _ _ => True) (fun l S => (([], p2E S.n (l.getD 2 0)), { S with bs := p2B S.bs S.n (l.getD 2 0) (l.getD 0 0) (l.getD 1 0) })) := by
  intro W B s F S t f first cap l lv hok hS hF hfd
  obtain ⟨b, C, hC, hb, hA, hB⟩ := found_memory hfd rfl rfl
  obtain ⟨g, _, hg, rfl, rfl, rfl, rfl⟩ := act_open (hA : ActAt C 3 220 154 (.func (.func 148) #[.pointer (some ⟨s, 0, none⟩)] #[]) _ W) (Nat.zero_le _)
  refine ⟨rfl, enters_of Tryz.func220 (by kernel_rfl) rfl, fun hl hpre hc => ActDone.post (tells_clo hg (enters_of Tryz.func148 (by kernel_rfl) rfl) ?_)⟩
  obtain ⟨ad, c, q0, q1, q2, e, rfl, cq0, cq1, cq2⟩ := hc.three hl
  subst e
  show Calls Tryz.prog _ _ W fun e w' => e = .returned (.int .i64 (p2E S.n q2)) ∧ Done W s F S { S with bs := p2B S.bs S.n q2 q0 q1 } w'
  have hsm := hS.mem.small
  have hn := hok.2.2.1
  have s2 : W.cell? ⟨s, 2, none⟩ = some (.pointer (some ⟨S.m, 0, none⟩)) := by
    obtain ⟨FS, ov, mv, hp, _⟩ := hS
    exact hp.blk.cell 2
  have z2 := cell_quiet ((Touch.refl [] W).drew) s2
  have hne : ad ∉ [S.m, S.g] := by
    intro hm
    simp only [List.mem_cons, List.not_mem_nil, or_false] at hm
    rcases hm with rfl | rfl
    · have h0 := hS.mem.blk.cell 0
      rw [cq0] at h0
      simp at h0
    · have h0 := hS.mem.cell (i := 0) (by omega)
      rw [cq0] at h0
      simp at h0
  have hns : s ∉ [S.m, S.g] := by
    obtain ⟨FS, ov, mv, hp, _⟩ := hS
    intro hm
    simp only [List.mem_cons, List.not_mem_nil, or_false] at hm
    rcases hm with rfl | rfl
    · exact hp.blk.ty.ne hp.mem.blk.ty (by decide) rfl
    · exact hp.blk.ty.ne hp.mem.row.ty (by decide) rfl
  have hG := Get_tot (hS.mem.quiet ((Touch.refl [] W).drew)) q2
  have hP := fun w (h : MemAt w S.m S.g S.n S.bs S.here) => Put_tot h (IntKind.i64.wrap (q2 + 8)) q0
  have hR := fun w (h : MemAt w S.m S.g S.n (putT S.bs S.n (IntKind.i64.wrap (q2 + 8)) q0) S.here) => Put_tot h q2 q1
  have ge : p2E S.n q2 = if getE S.n q2 = 0 then (if getE S.n (IntKind.i64.wrap (q2 + 8)) = 0 then getE S.n q2 else getE S.n (IntKind.i64.wrap (q2 + 8))) else getE S.n q2 := rfl
  have gb : p2B S.bs S.n q2 q0 q1 = if getE S.n q2 = 0 then (if getE S.n (IntKind.i64.wrap (q2 + 8)) = 0 then putT (putT S.bs S.n (IntKind.i64.wrap (q2 + 8)) q0) S.n q2 q1 else S.bs) else S.bs := rfl
  have hbad : ¬ getE S.n (IntKind.i64.wrap (q2 + 8)) = 0 → putT S.bs S.n (IntKind.i64.wrap (q2 + 8)) q0 = S.bs := fun h => putT_bad h
  rw [ge, gb]
  clear ge gb
  obtain ⟨nb, hnb⟩ : ∃ z, putT S.bs S.n (IntKind.i64.wrap (q2 + 8)) q0 = z := ⟨_, rfl⟩
  rw [hnb] at hP hR hbad ⊢
  obtain ⟨nc, hnc⟩ : ∃ z, putT nb S.n q2 q1 = z := ⟨_, rfl⟩
  rw [hnc] at hR ⊢
  obtain ⟨ee, he⟩ : ∃ z, getE S.n q2 = z := ⟨_, rfl⟩
  rw [he] at hG hR ⊢
  obtain ⟨ee2, he2⟩ : ∃ z, getE S.n (IntKind.i64.wrap (q2 + 8)) = z := ⟨_, rfl⟩
  rw [he2] at hP hbad ⊢
  rw [show getV S.bs S.n q2 = getV S.bs S.n q2 from rfl] at hG
  obtain ⟨y, hy⟩ : ∃ z, getV S.bs S.n q2 = z := ⟨_, rfl⟩
  rw [hy] at hG
  clear hy he he2 hnb hnc
  obtain ⟨re, hre⟩ : ∃ z, (if ee = 0 then (if ee2 = 0 then ee else ee2) else ee) = z := ⟨_, rfl⟩
  obtain ⟨rb, hrb⟩ : ∃ z, (if ee = 0 then (if ee2 = 0 then nc else S.bs) else S.bs) = z := ⟨_, rfl⟩
  rw [hre, hrb]
  have HQ : Hid ((¬ ee = 0 → re = ee ∧ rb = S.bs) ∧ (ee = 0 → ¬ ee2 = 0 → re = ee2 ∧ rb = S.bs) ∧ (ee = 0 → ee2 = 0 → re = ee ∧ rb = nc)) := ⟨fun h => ⟨by rw [← hre, if_neg h], by rw [← hrb, if_neg h]⟩, fun h k => ⟨by rw [← hre, if_pos h, if_neg k], by rw [← hrb, if_pos h, if_neg k]⟩, fun h k => ⟨by rw [← hre, if_pos h, if_pos k], by rw [← hrb, if_pos h, if_pos k]⟩⟩
  clear hre hrb
  have HH := Lib.hid (And.intro hS hB)
  have b0 := (hB.touch ((Touch.refl [] W).drew) (by simp)).cell 0
  have x0 := cell_quiet ((Touch.refl [] W).drew) cq0
  have x1 := cell_quiet ((Touch.refl [] W).drew) cq1
  have x2 := cell_quiet ((Touch.refl [] W).drew) cq2
  clear hS hB hA hg hfd hF hok hl hpre hc 
  show Calls Tryz.prog 148 #[.pointer (some ⟨s, 0, none⟩), .slice (some ⟨ad, 0, none⟩) 3 c] W _
  go_enter Tryz.func148, Tryz.ntmps148
  go_upto_region 1 with fail
  go_cut [5, 6] from 8 to 18 (fun xv ev wx => xv = .int .i64 y ∧ ev = .int .i64 ee ∧ Touch [] W wx)
  case first =>
    go_region_with (go_at_call 47; refine hG.mono ?_; rintro _ w1 ⟨rfl, t1⟩)
    all_goals (go_wp2_with fail; go_meet; exact ⟨rfl, rfl, t1.of_drew⟩)
  case rest =>
    obtain ⟨rfl, rfl, t1⟩ := hcut
    clear hG x0 x1 x2 z2
    by_cases he : ee = 0
    rotate_left
    · obtain ⟨q1, q2⟩ := HQ.out.1 he
      subst q1 q2
      clear HQ
      have HD : Hid (Done W s F S S wc) := Done.self HH.out.1 t1
      clear hP hR hbad t1 cq0 cq1 cq2 s2
      go_wp2_with fail
      go_ret
      exact ⟨rfl, HD.out⟩
    have HQ := Lib.hid (HQ.out.2)
    subst he
    have x0 := cell_quiet t1.drew cq0
    have x1 := cell_quiet t1.drew cq1
    have x2 := cell_quiet t1.drew cq2
    have z2 := cell_quiet t1.drew s2
    have hP := hP _ (HH.out.1.mem.quiet t1.drew)
    have T1 := Lib.hid t1.drew
    clear t1
    go_upto_region 4 with fail
    go_cut [7] from 22 to 33 (fun ev wy => ev = .int .i64 ee2 ∧ MemAt wy S.m S.g S.n nb S.here ∧ Touch [S.m, S.g] W wy)
    case first =>
      go_region_with (go_at_call 69; refine hP.mono ?_; rintro _ w2 ⟨rfl, hm, t2⟩)
      all_goals (go_wp2_with fail; go_meet; exact ⟨rfl, hm, (T1.out.mono (by simp)).trans t2 (fun g hg => .inl hg)⟩)
    case rest =>
      obtain ⟨rfl, hm, t2⟩ := hcut
      clear hP x0 x1 x2 z2
      by_cases he : ee2 = 0
      rotate_left
      · obtain ⟨q1, q2⟩ := HQ.out.1 rfl he
        subst q1 q2
        clear HQ
        rw [hbad he] at hm
        have HD : Hid (Done W s F S S wc) := Done.mem HH.out.1 hm t2
        clear hR hbad t2 cq0 cq1 cq2 s2 hm
        go_wp2_with fail
        go_ret
        exact ⟨rfl, HD.out⟩
      obtain ⟨q1, q2⟩ := HQ.out.2 rfl he
      clear HQ hbad
      subst q1 q2 he
      have x0 := cell_keep t2.drew cq0 hne
      have x1 := cell_keep t2.drew cq1 hne
      have x2 := cell_keep t2.drew cq2 hne
      have z2 := cell_keep t2.drew s2 hns
      have hR := hR _ (hm.quiet (Touch.refl [] _).drew)
      have T2 := Lib.hid t2.drew
      clear t2 hm cq0 cq1 cq2 s2
      go_upto_region 7 with fail
      go_region_with (go_at_call 69; refine hR.mono ?_; rintro _ w3 ⟨rfl, hm, t3⟩; have HD : Hid (Done W s F S _ w3) := Done.mem HH.out.1 hm (T2.out.trans t3 (fun g hg => .inl hg)); clear hm t3)
      all_goals go_wp2_with fail
      all_goals go_ret
      all_goals exact ⟨rfl, HD.out⟩
end Go.Proofs.YtkbchpaofmlhgaaGreatDoor
