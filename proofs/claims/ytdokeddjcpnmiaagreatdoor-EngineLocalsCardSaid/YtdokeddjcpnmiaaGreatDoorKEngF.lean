import Derived.Test.YtdokeddjcpnmiaaGreatDoorKEngE
import Derived.Deep.RegionLaw
/- Instructions of two calls (printed by wip/engfn.py). -/
namespace Go.Proofs.YtdokeddjcpnmiaaGreatDoor
open Go.RowKit
namespace En

set_option maxRecDepth 100000 in
set_option maxHeartbeats 3200000 in
theorem does_lit_sem {w : World} {g : Nat} {p : Lay} {F : List Nat} {m : M} (h : EngAt w g p F m) (hf : Fine m) (a v : Int) : Calls Tryz.prog 49 #[.pointer (some ⟨g, 0, none⟩), .agg #[.int .u8 1, .int .i64 a, .int .i64 v]] w fun R w' => R = .returned (stV (M.done (m.push v)).1) ∧ Keep w g p F (M.done (m.push v)).2 w' := by
  obtain ⟨z, hz⟩ : ∃ z, w.heap.size = z := ⟨_, rfl⟩
  have HS := Lib.hid (Start.box2 w h 1 a v)
  have hE0 := h.touch HS.out.1.t (by simp)
  rw [hz] at HS
  have b0 := HS.out.2.1.at_ (Touch.refl F _)
  obtain ⟨q0, q1, q2⟩ := HS.out.2.2.at_ (Touch.refl F _)
  have HA := Lib.hid (fun (W : World) F1 (hW : EngAt W g p F1 m) => push_sem hW hf.st v)
  have hpf := hf.push v
  obtain ⟨⟨pe, pm⟩, hp⟩ : ∃ q, m.push v = q := ⟨_, rfl⟩
  rw [hp] at HA hpf ⊢
  dsimp only at hpf
  have HD := Lib.hid (fun (W : World) F1 (hW : EngAt W g p F1 pm) => done_sem hW hpf pe)
  obtain ⟨⟨⟨sa, sb, sc⟩, m'⟩, hq⟩ : ∃ q, M.done (pe, pm) = q := ⟨_, rfl⟩
  rw [hq] at HD ⊢
  clear hq hp hpf h hf
  go_enter Tryz.func49, Tryz.ntmps49
  go_upto_region 1 with fail
  clear hz
  generalize ((w.alloc (.cells #[.pointer (some ⟨g, 0, none⟩)] 27)).alloc (.cells #[.int .u8 1, .int .i64 a, .int .i64 v] 56)).alloc (.cells #[.int .i64 0, .int .i64 0, .int .i64 0] 48) = W0 at *
  go_upto_region 3 with fail
  have HE := Lib.hid (hE0.touch (Touch.refl [] W0).drew (by simp))
  have HB := Lib.hid HS.out.2.1
  clear hE0
  go_region_law (first
    | (go_simp; go_at_call 66; refine Calls.mono (HA.out _ _ HE.out) ?_; rintro _ w5 ⟨rfl, k5⟩; have k5 := k5.pre (Touch.refl [] W0).drew; have b5 : w5.cell? ⟨z, 0, none⟩ = some (.pointer (some ⟨g, 0, none⟩)) := (by obtain ⟨_, _, t5, _⟩ := k5; exact HB.out.at_ t5); obtain ⟨F5, h5, n5⟩ := k5.open; have H5 := Lib.hid h5; clear h5 k5)
    | (go_simp; go_at_call 63; refine Calls.mono (HD.out _ _ H5.out) ?_; rintro _ w6 ⟨rfl, k6⟩; have k6 := n5.out _ _ k6; have hb := HS.out.1.blk k6; obtain ⟨⟨e0, e1, e2⟩, g0, g1, g2⟩ := zeros_of hb; have hr := three_read hb (.int .i64 sa) (.int .i64 sb) (.int .i64 sc); have HK := Lib.hid (And.intro hr (HS.out.1.end_ k6 (.int .i64 sa) (.int .i64 sb) (.int .i64 sc))); clear hr hb k6))
  all_goals obtain ⟨⟨r0, r1, r2⟩, hK⟩ := HK.out
  all_goals have HK := Lib.hid hK
  all_goals clear hK
  all_goals go_wp2_with fail
  all_goals refine bodyPost_ret (by simp [results, Tryz.results49, go_sem, r0, r1, r2]; try rfl) rfl ?_
  all_goals exact ⟨rfl, HK.out⟩
set_option maxRecDepth 100000 in
set_option maxHeartbeats 3200000 in
theorem does_jump_sem {w : World} {g : Nat} {p : Lay} {F : List Nat} {m : M} (h : EngAt w g p F m) (hf : Fine m) (a v : Int) : Calls Tryz.prog 49 #[.pointer (some ⟨g, 0, none⟩), .agg #[.int .u8 3, .int .i64 a, .int .i64 v]] w fun R w' => R = .returned (stV (M.done (m.jump true a)).1) ∧ Keep w g p F (M.done (m.jump true a)).2 w' := by
  obtain ⟨z, hz⟩ : ∃ z, w.heap.size = z := ⟨_, rfl⟩
  have HS := Lib.hid (Start.box2 w h 3 a v)
  have hE0 := h.touch HS.out.1.t (by simp)
  rw [hz] at HS
  have b0 := HS.out.2.1.at_ (Touch.refl F _)
  obtain ⟨q0, q1, q2⟩ := HS.out.2.2.at_ (Touch.refl F _)
  have HA := Lib.hid (fun (W : World) F1 (hW : EngAt W g p F1 m) => jump_sem hW true a)
  have hpf := hf.jump true a
  obtain ⟨⟨pe, pm⟩, hp⟩ : ∃ q, m.jump true a = q := ⟨_, rfl⟩
  rw [hp] at HA hpf ⊢
  dsimp only at hpf
  have HD := Lib.hid (fun (W : World) F1 (hW : EngAt W g p F1 pm) => done_sem hW hpf pe)
  obtain ⟨⟨⟨sa, sb, sc⟩, m'⟩, hq⟩ : ∃ q, M.done (pe, pm) = q := ⟨_, rfl⟩
  rw [hq] at HD ⊢
  clear hq hp hpf h hf
  go_enter Tryz.func49, Tryz.ntmps49
  go_upto_region 1 with fail
  clear hz
  generalize ((w.alloc (.cells #[.pointer (some ⟨g, 0, none⟩)] 27)).alloc (.cells #[.int .u8 3, .int .i64 a, .int .i64 v] 56)).alloc (.cells #[.int .i64 0, .int .i64 0, .int .i64 0] 48) = W0 at *
  go_upto_region 7 with fail
  have HE := Lib.hid (hE0.touch (Touch.refl [] W0).drew (by simp))
  have HB := Lib.hid HS.out.2.1
  clear hE0
  go_region_law (first
    | (go_simp; go_at_call 80; refine Calls.mono (HA.out _ _ HE.out) ?_; rintro _ w5 ⟨rfl, k5⟩; have k5 := k5.pre (Touch.refl [] W0).drew; have b5 : w5.cell? ⟨z, 0, none⟩ = some (.pointer (some ⟨g, 0, none⟩)) := (by obtain ⟨_, _, t5, _⟩ := k5; exact HB.out.at_ t5); obtain ⟨F5, h5, n5⟩ := k5.open; have H5 := Lib.hid h5; clear h5 k5)
    | (go_simp; go_at_call 63; refine Calls.mono (HD.out _ _ H5.out) ?_; rintro _ w6 ⟨rfl, k6⟩; have k6 := n5.out _ _ k6; have hb := HS.out.1.blk k6; obtain ⟨⟨e0, e1, e2⟩, g0, g1, g2⟩ := zeros_of hb; have hr := three_read hb (.int .i64 sa) (.int .i64 sb) (.int .i64 sc); have HK := Lib.hid (And.intro hr (HS.out.1.end_ k6 (.int .i64 sa) (.int .i64 sb) (.int .i64 sc))); clear hr hb k6))
  all_goals obtain ⟨⟨r0, r1, r2⟩, hK⟩ := HK.out
  all_goals have HK := Lib.hid hK
  all_goals clear hK
  all_goals go_wp2_with fail
  all_goals refine bodyPost_ret (by simp [results, Tryz.results49, go_sem, r0, r1, r2]; try rfl) rfl ?_
  all_goals exact ⟨rfl, HK.out⟩
set_option maxRecDepth 100000 in
set_option maxHeartbeats 3200000 in
theorem does_loop_sem {w : World} {g : Nat} {p : Lay} {F : List Nat} {m : M} (h : EngAt w g p F m) (hf : Fine m) (a v : Int) : Calls Tryz.prog 49 #[.pointer (some ⟨g, 0, none⟩), .agg #[.int .u8 7, .int .i64 a, .int .i64 v]] w fun R w' => R = .returned (stV (M.done (m.loop 1 a)).1) ∧ Keep w g p F (M.done (m.loop 1 a)).2 w' := by
  obtain ⟨z, hz⟩ : ∃ z, w.heap.size = z := ⟨_, rfl⟩
  have HS := Lib.hid (Start.box2 w h 7 a v)
  have hE0 := h.touch HS.out.1.t (by simp)
  rw [hz] at HS
  have b0 := HS.out.2.1.at_ (Touch.refl F _)
  obtain ⟨q0, q1, q2⟩ := HS.out.2.2.at_ (Touch.refl F _)
  have HA := Lib.hid (fun (W : World) F1 (hW : EngAt W g p F1 m) => loop_sem hW hf.fr 1 a)
  have hpf := hf.loop 1 a
  obtain ⟨⟨pe, pm⟩, hp⟩ : ∃ q, m.loop 1 a = q := ⟨_, rfl⟩
  rw [hp] at HA hpf ⊢
  dsimp only at hpf
  have HD := Lib.hid (fun (W : World) F1 (hW : EngAt W g p F1 pm) => done_sem hW hpf pe)
  obtain ⟨⟨⟨sa, sb, sc⟩, m'⟩, hq⟩ : ∃ q, M.done (pe, pm) = q := ⟨_, rfl⟩
  rw [hq] at HD ⊢
  clear hq hp hpf h hf
  go_enter Tryz.func49, Tryz.ntmps49
  go_upto_region 1 with fail
  clear hz
  generalize ((w.alloc (.cells #[.pointer (some ⟨g, 0, none⟩)] 27)).alloc (.cells #[.int .u8 7, .int .i64 a, .int .i64 v] 56)).alloc (.cells #[.int .i64 0, .int .i64 0, .int .i64 0] 48) = W0 at *
  go_upto_region 15 with fail
  have HE := Lib.hid (hE0.touch (Touch.refl [] W0).drew (by simp))
  have HB := Lib.hid HS.out.2.1
  clear hE0
  go_region_law (first
    | (go_simp; go_at_call 84; refine Calls.mono (HA.out _ _ HE.out) ?_; rintro _ w5 ⟨rfl, k5⟩; have k5 := k5.pre (Touch.refl [] W0).drew; have b5 : w5.cell? ⟨z, 0, none⟩ = some (.pointer (some ⟨g, 0, none⟩)) := (by obtain ⟨_, _, t5, _⟩ := k5; exact HB.out.at_ t5); obtain ⟨F5, h5, n5⟩ := k5.open; have H5 := Lib.hid h5; clear h5 k5)
    | (go_simp; go_at_call 63; refine Calls.mono (HD.out _ _ H5.out) ?_; rintro _ w6 ⟨rfl, k6⟩; have k6 := n5.out _ _ k6; have hb := HS.out.1.blk k6; obtain ⟨⟨e0, e1, e2⟩, g0, g1, g2⟩ := zeros_of hb; have hr := three_read hb (.int .i64 sa) (.int .i64 sb) (.int .i64 sc); have HK := Lib.hid (And.intro hr (HS.out.1.end_ k6 (.int .i64 sa) (.int .i64 sb) (.int .i64 sc))); clear hr hb k6))
  all_goals obtain ⟨⟨r0, r1, r2⟩, hK⟩ := HK.out
  all_goals have HK := Lib.hid hK
  all_goals clear hK
  all_goals go_wp2_with fail
  all_goals refine bodyPost_ret (by simp [results, Tryz.results49, go_sem, r0, r1, r2]; try rfl) rfl ?_
  all_goals exact ⟨rfl, HK.out⟩
end En
end Go.Proofs.YtdokeddjcpnmiaaGreatDoor

/- Instructions that take cells (printed by wip/engfn.py). -/
namespace Go.Proofs.YtdokeddjcpnmiaaGreatDoor
open Go.RowKit
namespace En

theorem jump_0 (m : M) (b : Bool) (t : Int) : (m.jump b t).1 = 0 := rfl
set_option maxRecDepth 100000 in
set_option maxHeartbeats 3200000 in
theorem does_zero_sem {w : World} {g : Nat} {p : Lay} {F : List Nat} {m : M} (h : EngAt w g p F m) (hf : Fine m) (a v : Int) : Calls Tryz.prog 49 #[.pointer (some ⟨g, 0, none⟩), .agg #[.int .u8 4, .int .i64 a, .int .i64 v]] w fun R w' => R = .returned (stV (m.with_ 1 (fun l m => m.jump (l.getD 0 0 == 0) a)).1) ∧ Keep w g p F (m.with_ 1 (fun l m => m.jump (l.getD 0 0 == 0) a)).2 w' := by
  obtain ⟨do_, hdo⟩ : ∃ do_ : List Int → M → Int × M, do_ = (fun l m => m.jump (l.getD 0 0 == 0) a) := ⟨_, rfl⟩
  rw [← hdo]
  obtain ⟨z, hz⟩ : ∃ z, w.heap.size = z := ⟨_, rfl⟩
  have HS := Lib.hid (Start.box2 w h 4 a v)
  have hE0 := h.touch HS.out.1.t (by simp)
  rw [hz] at HS
  have b0 := HS.out.2.1.at_ (Touch.refl F _)
  obtain ⟨q0, q1, q2⟩ := HS.out.2.2.at_ (Touch.refl F _)
  have hT := with_sem hE0 hf 1 (by decide) 81 #[] #[.pointer (some ⟨z, 0, none⟩), .pointer (some ⟨z + 1, 0, none⟩)] do_ (enters_of Tryz.func81 (by kernel_rfl) rfl) (by rw [hdo]; exact zero_acts HS.out.2.1 HS.out.2.2) (fun hn => by rw [hdo]; exact (taken_fine hf 1).jump _ _) (fun hn hr => by rw [hdo] at hr ⊢; exact absurd (jump_0 _ _ _) hr)
  rw [show ((1 : Nat) : Int) = 1 from rfl] at hT
  obtain ⟨⟨⟨sa, sb, sc⟩, m'⟩, hq⟩ : ∃ q, m.with_ 1 do_ = q := ⟨_, rfl⟩
  rw [hq] at hT ⊢
  dsimp only at hT ⊢
  clear hq
  clear hdo hE0 h hf
  go_enter Tryz.func49, Tryz.ntmps49
  go_upto_region 1 with fail
  clear hz
  generalize ((w.alloc (.cells #[.pointer (some ⟨g, 0, none⟩)] 27)).alloc (.cells #[.int .u8 4, .int .i64 a, .int .i64 v] 56)).alloc (.cells #[.int .i64 0, .int .i64 0, .int .i64 0] 48) = W0 at *
  go_wp2_with fail
  refine hT.mono ?_
  rintro _ w1 ⟨rfl, k1⟩
  have hb := HS.out.1.blk k1
  obtain ⟨⟨e0, e1, e2⟩, g0, g1, g2⟩ := zeros_of hb
  obtain ⟨r0, r1, r2⟩ := three_read hb (.int .i64 sa) (.int .i64 sb) (.int .i64 sc)
  have HK := Lib.hid (HS.out.1.end_ k1 (.int .i64 sa) (.int .i64 sb) (.int .i64 sc))
  clear k1 hb hT b0 q0 q1 q2
  go_wp2_with fail
  refine bodyPost_ret (by simp [results, Tryz.results49, go_sem, r0, r1, r2]; try rfl) rfl ?_
  exact ⟨rfl, HK.out⟩
set_option maxRecDepth 100000 in
set_option maxHeartbeats 3200000 in
theorem does_do_sem {w : World} {g : Nat} {p : Lay} {F : List Nat} {m : M} (h : EngAt w g p F m) (hf : Fine m) (a v : Int) : Calls Tryz.prog 49 #[.pointer (some ⟨g, 0, none⟩), .agg #[.int .u8 5, .int .i64 a, .int .i64 v]] w fun R w' => R = .returned (stV (m.with_ 2 (fun l m => m.begins l)).1) ∧ Keep w g p F (m.with_ 2 (fun l m => m.begins l)).2 w' := by
  obtain ⟨do_, hdo⟩ : ∃ do_ : List Int → M → Int × M, do_ = (fun l m => m.begins l) := ⟨_, rfl⟩
  rw [← hdo]
  obtain ⟨z, hz⟩ : ∃ z, w.heap.size = z := ⟨_, rfl⟩
  have HS := Lib.hid (Start.box2 w h 5 a v)
  have hE0 := h.touch HS.out.1.t (by simp)
  rw [hz] at HS
  have b0 := HS.out.2.1.at_ (Touch.refl F _)
  obtain ⟨q0, q1, q2⟩ := HS.out.2.2.at_ (Touch.refl F _)
  have hT := with_sem hE0 hf 2 (by decide) 82 #[.pointer (some ⟨g, 0, none⟩)] #[] do_ (enters_of Tryz.func82 (by kernel_rfl) rfl) (by rw [hdo]; exact begins_acts) (fun hn => by rw [hdo]; exact (taken_fine hf 2).begins _) (fun hn hr => by rw [hdo] at hr ⊢; exact by rw [show ∀ l, ((m.taken 2).begins l).2.S = (m.taken 2).S from fun l => pushFr_S _ _]; exact taken_room hf hn)
  rw [show ((2 : Nat) : Int) = 2 from rfl] at hT
  obtain ⟨⟨⟨sa, sb, sc⟩, m'⟩, hq⟩ : ∃ q, m.with_ 2 do_ = q := ⟨_, rfl⟩
  rw [hq] at hT ⊢
  dsimp only at hT ⊢
  clear hq
  clear hdo hE0 h hf
  go_enter Tryz.func49, Tryz.ntmps49
  go_upto_region 1 with fail
  clear hz
  generalize ((w.alloc (.cells #[.pointer (some ⟨g, 0, none⟩)] 27)).alloc (.cells #[.int .u8 5, .int .i64 a, .int .i64 v] 56)).alloc (.cells #[.int .i64 0, .int .i64 0, .int .i64 0] 48) = W0 at *
  go_wp2_with fail
  refine hT.mono ?_
  rintro _ w1 ⟨rfl, k1⟩
  have hb := HS.out.1.blk k1
  obtain ⟨⟨e0, e1, e2⟩, g0, g1, g2⟩ := zeros_of hb
  obtain ⟨r0, r1, r2⟩ := three_read hb (.int .i64 sa) (.int .i64 sb) (.int .i64 sc)
  have HK := Lib.hid (HS.out.1.end_ k1 (.int .i64 sa) (.int .i64 sb) (.int .i64 sc))
  clear k1 hb hT b0 q0 q1 q2
  go_wp2_with fail
  refine bodyPost_ret (by simp [results, Tryz.results49, go_sem, r0, r1, r2]; try rfl) rfl ?_
  exact ⟨rfl, HK.out⟩
set_option maxRecDepth 100000 in
set_option maxHeartbeats 3200000 in
theorem does_qdo_sem {w : World} {g : Nat} {p : Lay} {F : List Nat} {m : M} (h : EngAt w g p F m) (hf : Fine m) (a v : Int) : Calls Tryz.prog 49 #[.pointer (some ⟨g, 0, none⟩), .agg #[.int .u8 6, .int .i64 a, .int .i64 v]] w fun R w' => R = .returned (stV (m.with_ 2 (fun l m => if l.getD 0 0 = l.getD 1 0 then m.jump true a else m.begins l)).1) ∧ Keep w g p F (m.with_ 2 (fun l m => if l.getD 0 0 = l.getD 1 0 then m.jump true a else m.begins l)).2 w' := by
  obtain ⟨do_, hdo⟩ : ∃ do_ : List Int → M → Int × M, do_ = (fun l m => if l.getD 0 0 = l.getD 1 0 then m.jump true a else m.begins l) := ⟨_, rfl⟩
  rw [← hdo]
  obtain ⟨z, hz⟩ : ∃ z, w.heap.size = z := ⟨_, rfl⟩
  have HS := Lib.hid (Start.box2 w h 6 a v)
  have hE0 := h.touch HS.out.1.t (by simp)
  rw [hz] at HS
  have b0 := HS.out.2.1.at_ (Touch.refl F _)
  obtain ⟨q0, q1, q2⟩ := HS.out.2.2.at_ (Touch.refl F _)
  have hT := with_sem hE0 hf 2 (by decide) 83 #[] #[.pointer (some ⟨z, 0, none⟩), .pointer (some ⟨z + 1, 0, none⟩)] do_ (enters_of Tryz.func83 (by kernel_rfl) rfl) (by rw [hdo]; exact qdo_acts HS.out.2.1 HS.out.2.2) (fun hn => by rw [hdo]; exact by dsimp only; split; exact (taken_fine hf 2).jump _ _; exact (taken_fine hf 2).begins _) (fun hn hr => by rw [hdo] at hr ⊢; exact by dsimp only; split; exact taken_room hf hn; rw [show ∀ l, ((m.taken 2).begins l).2.S = (m.taken 2).S from fun l => pushFr_S _ _]; exact taken_room hf hn)
  rw [show ((2 : Nat) : Int) = 2 from rfl] at hT
  obtain ⟨⟨⟨sa, sb, sc⟩, m'⟩, hq⟩ : ∃ q, m.with_ 2 do_ = q := ⟨_, rfl⟩
  rw [hq] at hT ⊢
  dsimp only at hT ⊢
  clear hq
  clear hdo hE0 h hf
  go_enter Tryz.func49, Tryz.ntmps49
  go_upto_region 1 with fail
  clear hz
  generalize ((w.alloc (.cells #[.pointer (some ⟨g, 0, none⟩)] 27)).alloc (.cells #[.int .u8 6, .int .i64 a, .int .i64 v] 56)).alloc (.cells #[.int .i64 0, .int .i64 0, .int .i64 0] 48) = W0 at *
  go_wp2_with fail
  refine hT.mono ?_
  rintro _ w1 ⟨rfl, k1⟩
  have hb := HS.out.1.blk k1
  obtain ⟨⟨e0, e1, e2⟩, g0, g1, g2⟩ := zeros_of hb
  obtain ⟨r0, r1, r2⟩ := three_read hb (.int .i64 sa) (.int .i64 sb) (.int .i64 sc)
  have HK := Lib.hid (HS.out.1.end_ k1 (.int .i64 sa) (.int .i64 sb) (.int .i64 sc))
  clear k1 hb hT b0 q0 q1 q2
  go_wp2_with fail
  refine bodyPost_ret (by simp [results, Tryz.results49, go_sem, r0, r1, r2]; try rfl) rfl ?_
  exact ⟨rfl, HK.out⟩
set_option maxRecDepth 100000 in
set_option maxHeartbeats 3200000 in
theorem does_plus_sem {w : World} {g : Nat} {p : Lay} {F : List Nat} {m : M} (h : EngAt w g p F m) (hf : Fine m) (a v : Int) : Calls Tryz.prog 49 #[.pointer (some ⟨g, 0, none⟩), .agg #[.int .u8 8, .int .i64 a, .int .i64 v]] w fun R w' => R = .returned (stV (m.with_ 1 (fun l m => m.loop (l.getD 0 0) a)).1) ∧ Keep w g p F (m.with_ 1 (fun l m => m.loop (l.getD 0 0) a)).2 w' := by
  obtain ⟨do_, hdo⟩ : ∃ do_ : List Int → M → Int × M, do_ = (fun l m => m.loop (l.getD 0 0) a) := ⟨_, rfl⟩
  rw [← hdo]
  obtain ⟨z, hz⟩ : ∃ z, w.heap.size = z := ⟨_, rfl⟩
  have HS := Lib.hid (Start.box2 w h 8 a v)
  have hE0 := h.touch HS.out.1.t (by simp)
  rw [hz] at HS
  have b0 := HS.out.2.1.at_ (Touch.refl F _)
  obtain ⟨q0, q1, q2⟩ := HS.out.2.2.at_ (Touch.refl F _)
  have hT := with_sem hE0 hf 1 (by decide) 85 #[] #[.pointer (some ⟨z, 0, none⟩), .pointer (some ⟨z + 1, 0, none⟩)] do_ (enters_of Tryz.func85 (by kernel_rfl) rfl) (by rw [hdo]; exact plus_acts HS.out.2.1 HS.out.2.2 hf.fr) (fun hn => by rw [hdo]; exact (taken_fine hf 1).loop _ _) (fun hn hr => by rw [hdo] at hr ⊢; exact by rw [show ∀ b t, ((m.taken 1).loop b t).2.S = (m.taken 1).S from loop_S _]; exact taken_room hf hn)
  rw [show ((1 : Nat) : Int) = 1 from rfl] at hT
  obtain ⟨⟨⟨sa, sb, sc⟩, m'⟩, hq⟩ : ∃ q, m.with_ 1 do_ = q := ⟨_, rfl⟩
  rw [hq] at hT ⊢
  dsimp only at hT ⊢
  clear hq
  clear hdo hE0 h hf
  go_enter Tryz.func49, Tryz.ntmps49
  go_upto_region 1 with fail
  clear hz
  generalize ((w.alloc (.cells #[.pointer (some ⟨g, 0, none⟩)] 27)).alloc (.cells #[.int .u8 8, .int .i64 a, .int .i64 v] 56)).alloc (.cells #[.int .i64 0, .int .i64 0, .int .i64 0] 48) = W0 at *
  go_wp2_with fail
  refine hT.mono ?_
  rintro _ w1 ⟨rfl, k1⟩
  have hb := HS.out.1.blk k1
  obtain ⟨⟨e0, e1, e2⟩, g0, g1, g2⟩ := zeros_of hb
  obtain ⟨r0, r1, r2⟩ := three_read hb (.int .i64 sa) (.int .i64 sb) (.int .i64 sc)
  have HK := Lib.hid (HS.out.1.end_ k1 (.int .i64 sa) (.int .i64 sb) (.int .i64 sc))
  clear k1 hb hT b0 q0 q1 q2
  go_wp2_with fail
  refine bodyPost_ret (by simp [results, Tryz.results49, go_sem, r0, r1, r2]; try rfl) rfl ?_
  exact ⟨rfl, HK.out⟩
set_option maxRecDepth 100000 in
set_option maxHeartbeats 3200000 in
theorem does_of_sem {w : World} {g : Nat} {p : Lay} {F : List Nat} {m : M} (h : EngAt w g p F m) (hf : Fine m) (a v : Int) : Calls Tryz.prog 49 #[.pointer (some ⟨g, 0, none⟩), .agg #[.int .u8 10, .int .i64 a, .int .i64 v]] w fun R w' => R = .returned (stV (m.with_ 2 (fun l m => if l.getD 0 0 = l.getD 1 0 then (0, m) else (m.push (l.getD 0 0)).2.jump true a)).1) ∧ Keep w g p F (m.with_ 2 (fun l m => if l.getD 0 0 = l.getD 1 0 then (0, m) else (m.push (l.getD 0 0)).2.jump true a)).2 w' := by
  obtain ⟨do_, hdo⟩ : ∃ do_ : List Int → M → Int × M, do_ = (fun l m => if l.getD 0 0 = l.getD 1 0 then (0, m) else (m.push (l.getD 0 0)).2.jump true a) := ⟨_, rfl⟩
  rw [← hdo]
  obtain ⟨z, hz⟩ : ∃ z, w.heap.size = z := ⟨_, rfl⟩
  have HS := Lib.hid (Start.box2 w h 10 a v)
  have hE0 := h.touch HS.out.1.t (by simp)
  rw [hz] at HS
  have b0 := HS.out.2.1.at_ (Touch.refl F _)
  obtain ⟨q0, q1, q2⟩ := HS.out.2.2.at_ (Touch.refl F _)
  have hT := with_sem hE0 hf 2 (by decide) 86 #[] #[.pointer (some ⟨z, 0, none⟩), .pointer (some ⟨z + 1, 0, none⟩)] do_ (enters_of Tryz.func86 (by kernel_rfl) rfl) (by rw [hdo]; exact of_acts HS.out.2.1 HS.out.2.2 (taken_fine hf 2).st) (fun hn => by rw [hdo]; exact by dsimp only; split; exact taken_fine hf 2; exact ((taken_fine hf 2).push _).jump _ _) (fun hn hr => by rw [hdo] at hr ⊢; exact by dsimp only at hr; split at hr; exact absurd rfl hr; exact absurd (jump_0 _ _ _) hr)
  rw [show ((2 : Nat) : Int) = 2 from rfl] at hT
  obtain ⟨⟨⟨sa, sb, sc⟩, m'⟩, hq⟩ : ∃ q, m.with_ 2 do_ = q := ⟨_, rfl⟩
  rw [hq] at hT ⊢
  dsimp only at hT ⊢
  clear hq
  clear hdo hE0 h hf
  go_enter Tryz.func49, Tryz.ntmps49
  go_upto_region 1 with fail
  clear hz
  generalize ((w.alloc (.cells #[.pointer (some ⟨g, 0, none⟩)] 27)).alloc (.cells #[.int .u8 10, .int .i64 a, .int .i64 v] 56)).alloc (.cells #[.int .i64 0, .int .i64 0, .int .i64 0] 48) = W0 at *
  go_wp2_with fail
  refine hT.mono ?_
  rintro _ w1 ⟨rfl, k1⟩
  have hb := HS.out.1.blk k1
  obtain ⟨⟨e0, e1, e2⟩, g0, g1, g2⟩ := zeros_of hb
  obtain ⟨r0, r1, r2⟩ := three_read hb (.int .i64 sa) (.int .i64 sb) (.int .i64 sc)
  have HK := Lib.hid (HS.out.1.end_ k1 (.int .i64 sa) (.int .i64 sb) (.int .i64 sc))
  clear k1 hb hT b0 q0 q1 q2
  go_wp2_with fail
  refine bodyPost_ret (by simp [results, Tryz.results49, go_sem, r0, r1, r2]; try rfl) rfl ?_
  exact ⟨rfl, HK.out⟩
end En
end Go.Proofs.YtdokeddjcpnmiaaGreatDoor
