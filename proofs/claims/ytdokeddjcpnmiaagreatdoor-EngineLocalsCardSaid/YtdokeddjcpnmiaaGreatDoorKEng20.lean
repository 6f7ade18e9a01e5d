import Derived.Test.YtdokeddjcpnmiaaGreatDoorKEngF
/- Instructions of what is held (printed by wip/engfn.py). -/
namespace Go.Proofs.YtdokeddjcpnmiaaGreatDoor
open Go.RowKit
namespace En

set_option maxRecDepth 100000 in
set_option maxHeartbeats 3200000 in
theorem holds_drop_sem {w : World} {g : Nat} {p : Lay} {F : List Nat} {m : M} (h : EngAt w g p F m) (hf : Fine m) (a v : Int) : Calls Tryz.prog 87 #[.pointer (some ⟨g, 0, none⟩), .agg #[.int .u8 11, .int .i64 a, .int .i64 v]] w fun R w' => R = .returned (stV (m.with_ 1 (fun _ m => (0, m))).1) ∧ Keep w g p F (m.with_ 1 (fun _ m => (0, m))).2 w' := by
  obtain ⟨do_, hdo⟩ : ∃ do_ : List Int → M → Int × M, do_ = (fun _ m => (0, m)) := ⟨_, rfl⟩
  rw [← hdo]
  obtain ⟨z, hz⟩ : ∃ z, w.heap.size = z := ⟨_, rfl⟩
  have HS := Lib.hid (Start.box2 w h 11 a v)
  have hE0 := h.touch HS.out.1.t (by simp)
  rw [hz] at HS
  have b0 := HS.out.2.1.at_ (Touch.refl F _)
  obtain ⟨q0, q1, q2⟩ := HS.out.2.2.at_ (Touch.refl F _)
  have hT := with_sem hE0 hf 1 (by decide) 113 #[] #[] do_ (enters_of Tryz.func113 (by kernel_rfl) rfl) (by rw [hdo]; exact drop_acts) (fun hn => by rw [hdo]; exact taken_fine hf 1) (fun hn hr => by rw [hdo] at hr ⊢; exact absurd rfl hr)
  rw [show ((1 : Nat) : Int) = 1 from rfl] at hT
  obtain ⟨⟨⟨sa, sb, sc⟩, m'⟩, hq⟩ : ∃ q, m.with_ 1 do_ = q := ⟨_, rfl⟩
  rw [hq] at hT ⊢
  dsimp only at hT ⊢
  clear hq
  clear hdo hE0 h hf
  go_enter Tryz.func87, Tryz.ntmps87
  go_upto_region 1 with fail
  clear hz
  generalize ((w.alloc (.cells #[.pointer (some ⟨g, 0, none⟩)] 27)).alloc (.cells #[.int .u8 11, .int .i64 a, .int .i64 v] 56)).alloc (.cells #[.int .i64 0, .int .i64 0, .int .i64 0] 48) = W0 at *
  go_wp2_with fail
  refine hT.mono ?_
  rintro _ w1 ⟨rfl, k1⟩
  have hb := HS.out.1.blk k1
  obtain ⟨⟨e0, e1, e2⟩, g0, g1, g2⟩ := zeros_of hb
  obtain ⟨r0, r1, r2⟩ := three_read hb (.int .i64 sa) (.int .i64 sb) (.int .i64 sc)
  have HK := Lib.hid (HS.out.1.end_ k1 (.int .i64 sa) (.int .i64 sb) (.int .i64 sc))
  clear k1 hb hT b0 q0 q1 q2
  go_wp2_with fail
  refine bodyPost_ret (by simp [results, Tryz.results87, go_sem, r0, r1, r2]; try rfl) rfl ?_
  exact ⟨rfl, HK.out⟩
set_option maxRecDepth 100000 in
set_option maxHeartbeats 3200000 in
theorem holds_leave_sem {w : World} {g : Nat} {p : Lay} {F : List Nat} {m : M} (h : EngAt w g p F m) (hf : Fine m) (a v : Int) : Calls Tryz.prog 87 #[.pointer (some ⟨g, 0, none⟩), .agg #[.int .u8 9, .int .i64 a, .int .i64 v]] w fun R w' => R = .returned (stV (M.done ((m.leave).1, if (m.leave).1 = 0 then { (m.leave).2 with on := a } else m)).1) ∧ Keep w g p F (M.done ((m.leave).1, if (m.leave).1 = 0 then { (m.leave).2 with on := a } else m)).2 w' := by
  obtain ⟨z, hz⟩ : ∃ z, w.heap.size = z := ⟨_, rfl⟩
  have HS := Lib.hid (Start.box2 w h 9 a v)
  have hE0 := h.touch HS.out.1.t (by simp)
  rw [hz] at HS
  have b0 := HS.out.2.1.at_ (Touch.refl F _)
  obtain ⟨q0, q1, q2⟩ := HS.out.2.2.at_ (Touch.refl F _)
  have hV := leave_sem hE0 hf.fr
  have hfl := hf.leave
  have hln : (m.leave).1 ≠ 0 → (m.leave).2 = m := by unfold M.leave M.pop; split <;> intro hh; exact absurd rfl hh; rfl
  obtain ⟨⟨le, lm⟩, hl⟩ : ∃ q, m.leave = q := ⟨_, rfl⟩
  rw [hl] at hV hfl hln ⊢
  dsimp only at hV hfl hln ⊢
  have ej : (lm.jump (le == 0) a).2 = if le = 0 then { lm with on := a } else m := by
    unfold M.jump
    by_cases h0 : le = 0
    · rw [h0]; rfl
    · rw [show (le == 0) = false by simpa using h0, if_neg h0]; exact hln h0
  rw [← ej]
  have hpf : Fine (lm.jump (le == 0) a).2 := hfl.jump _ _
  have HJ := Lib.hid (fun (W : World) F1 (hW : EngAt W g p F1 lm) => jump_sem hW (le == 0) a)
  obtain ⟨pm, hpm⟩ : ∃ pm, (lm.jump (le == 0) a).2 = pm := ⟨_, rfl⟩
  rw [hpm] at hpf HJ ⊢
  have HD := Lib.hid (fun (W : World) F1 (hW : EngAt W g p F1 pm) => done_sem hW hpf le)
  obtain ⟨⟨⟨sa, sb, sc⟩, m'⟩, hq⟩ : ∃ q, M.done (le, pm) = q := ⟨_, rfl⟩
  rw [hq] at HD ⊢
  clear hq hpf hpm ej hln hfl hl hE0 h hf
  go_enter Tryz.func87, Tryz.ntmps87
  go_upto_region 1 with fail
  clear hz
  generalize ((w.alloc (.cells #[.pointer (some ⟨g, 0, none⟩)] 27)).alloc (.cells #[.int .u8 9, .int .i64 a, .int .i64 v] 56)).alloc (.cells #[.int .i64 0, .int .i64 0, .int .i64 0] 48) = W0 at *
  go_wp2_with fail
  refine hV.mono ?_
  rintro _ w1 ⟨rfl, k1⟩
  have b1 : w1.cell? ⟨z, 0, none⟩ = some (.pointer (some ⟨g, 0, none⟩)) := by obtain ⟨_, _, t1, _⟩ := k1; exact HS.out.2.1.at_ t1
  have x1 : w1.cell? ⟨z + 1, 1, none⟩ = some (.int .i64 a) := by obtain ⟨_, _, t1, _⟩ := k1; exact (HS.out.2.2.at_ t1).2.1
  obtain ⟨F1, h1, n1⟩ := k1.open
  have hJ := HJ.out _ _ h1
  clear hV k1 h1 b0 q0 q1 q2
  go_wp2_with fail
  refine hJ.mono ?_
  rintro _ w2 ⟨rfl, k2⟩
  have k2 := n1.out _ _ k2
  have b2 : w2.cell? ⟨z, 0, none⟩ = some (.pointer (some ⟨g, 0, none⟩)) := by obtain ⟨_, _, t1, _⟩ := k2; exact HS.out.2.1.at_ t1
  obtain ⟨F2, h2, n2⟩ := k2.open
  have hD := HD.out _ _ h2
  clear hJ k2 h2 b1 x1 n1
  go_wp2_with fail
  refine hD.mono ?_
  rintro _ w3 ⟨rfl, k3⟩
  have k3 := n2.out _ _ k3
  have hb := HS.out.1.blk k3
  obtain ⟨⟨e0, e1, e2⟩, g0, g1, g2⟩ := zeros_of hb
  obtain ⟨r0, r1, r2⟩ := three_read hb (.int .i64 sa) (.int .i64 sb) (.int .i64 sc)
  have HK := Lib.hid (HS.out.1.end_ k3 (.int .i64 sa) (.int .i64 sb) (.int .i64 sc))
  clear k3 hb hD b2
  go_wp2_with fail
  refine bodyPost_ret (by simp [results, Tryz.results87, go_sem, r0, r1, r2]; try rfl) rfl ?_
  exact ⟨rfl, HK.out⟩
set_option maxRecDepth 100000 in
set_option maxHeartbeats 3200000 in
theorem holds_exit_sem {w : World} {g : Nat} {p : Lay} {F : List Nat} {m : M} (h : EngAt w g p F m) (hf : Fine m) (a v : Int) (op : Int) (hop : (op == 9) = false ∧ (op == 11) = false ∧ (op == 12) = false ∧ (op == 13) = false ∧ (op == 14) = false) : Calls Tryz.prog 87 #[.pointer (some ⟨g, 0, none⟩), .agg #[.int .u8 op, .int .i64 a, .int .i64 v]] w fun R w' => R = .returned (stV (M.done (0, { m with fr := if (topF m.fr).k = 4 then m.fr.dropLast else m.fr, df := 0, on := 0 })).1) ∧ Keep w g p F (M.done (0, { m with fr := if (topF m.fr).k = 4 then m.fr.dropLast else m.fr, df := 0, on := 0 })).2 w' := by
  obtain ⟨z, hz⟩ : ∃ z, w.heap.size = z := ⟨_, rfl⟩
  have HS := Lib.hid (Start.box2 w h op a v)
  have hE0 := h.touch HS.out.1.t (by simp)
  rw [hz] at HS
  have b0 := HS.out.2.1.at_ (Touch.refl F _)
  obtain ⟨q0, q1, q2⟩ := HS.out.2.2.at_ (Touch.refl F _)
  obtain ⟨o9, o11, o12, o13, o14⟩ := hop
  have c3 := hE0.c3
  have hTp := top_keep hE0 hf.fr
  by_cases h4 : (topF m.fr).k = 4
  · rw [if_pos h4]
    have h0 : m.fr ≠ [] := fun e => by rw [e] at h4; exact absurd h4 (by decide)
    obtain ⟨Q, f, hQ⟩ := snoc_of h0
    have ef : topF m.fr = f := by rw [hQ, topF_snoc]
    have ed : m.fr.dropLast = Q := by rw [hQ, List.dropLast_concat]
    have hfr := hf.fr
    have hQl : Q.length ≤ 127 := by have := congrArg List.length hQ; simp at this; omega
    rw [ef] at hTp h4
    rw [ed]
    obtain ⟨ok, hok⟩ : ∃ ok, decide (m.fr ≠ []) = ok := ⟨_, rfl⟩
    rw [hok] at hTp
    have HP := Lib.hid (fun (W : World) F1 (hW : EngAt W g p F1 m) => pop_any hW hfr f Q hQ 4 h4)
    have kk4 : (f.k == 4) = true := by simpa using h4
    have HPl := Lib.hid (fun (W : World) F1 (hW : EngAt W g p F1 { m with fr := Q }) => place_sem hW 0 0)
    have hpf : Fine { m with fr := Q, df := 0, on := 0 } := (hf.frs (L := Q) (by omega)).at_ 0 0 _
    obtain ⟨pm, hpm⟩ : ∃ pm : M, { m with fr := Q, df := 0, on := 0 } = pm := ⟨_, rfl⟩
    rw [show ({ m with fr := Q } : M).place 0 0 = pm from hpm] at HPl
    rw [hpm] at hpf ⊢
    have HD := Lib.hid (fun (W : World) F1 (hW : EngAt W g p F1 pm) => done_sem hW hpf 0)
    obtain ⟨⟨⟨sa, sb, sc⟩, m'⟩, hq⟩ : ∃ q, M.done (0, pm) = q := ⟨_, rfl⟩
    rw [hq] at HD ⊢
    clear hq hpf hpm hE0 h hf h4 h0 hQ ef ed hfr hQl hok
    go_enter Tryz.func87, Tryz.ntmps87
    go_upto_region 1 with fail
    clear hz
    generalize ((w.alloc (.cells #[.pointer (some ⟨g, 0, none⟩)] 27)).alloc (.cells #[.int .u8 op, .int .i64 a, .int .i64 v] 56)).alloc (.cells #[.int .i64 0, .int .i64 0, .int .i64 0] 48) = W0 at *
    go_wp2_with fail
    refine hTp.mono ?_
    rintro _ w1 ⟨ta, tn, tc, rfl, k1⟩
    have tY := (Touch.refl [] w1).alloc (.cells #[.int .i64 f.k, .int .i64 f.a, .int .i64 f.b, .int .i64 f.x, .int .i64 f.y, .slice ta tn tc] 45)
    have bY := Blk.new w1 45 #[.int .i64 f.k, .int .i64 f.a, .int .i64 f.b, .int .i64 f.x, .int .i64 f.y, .slice ta tn tc]
    obtain ⟨y, hy⟩ : ∃ y, w1.heap.size = y := ⟨_, rfl⟩
    rw [hy] at bY
    have HBX := Lib.hid (show Cap (w1.alloc (.cells #[.int .i64 f.k, .int .i64 f.a, .int .i64 f.b, .int .i64 f.x, .int .i64 f.y, .slice ta tn tc] 45)) F z g by obtain ⟨_, _, t1, _⟩ := k1; exact ⟨(HS.out.2.1.blk.touch t1 HS.out.2.1.off).alloc _, HS.out.2.1.off⟩)
    have tw := Lib.hid (show Touch F W0 (w1.alloc (.cells #[.int .i64 f.k, .int .i64 f.a, .int .i64 f.b, .int .i64 f.x, .int .i64 f.y, .slice ta tn tc] 45)) by obtain ⟨_, _, t1, _⟩ := k1; exact t1.alloc _)
    obtain ⟨F1, h1, n1⟩ := k1.open
    have hyF : y ∉ F1 := fun hx => by have := h1.lt y hx; omega
    have h2 := h1.touch tY (by simp)
    have HN := Lib.hid (fun (m2 : M) (W2 : World) (k : Keep (w1.alloc (.cells #[.int .i64 f.k, .int .i64 f.a, .int .i64 f.b, .int .i64 f.x, .int .i64 f.y, .slice ta tn tc] 45)) g p F1 m2 W2) => n1.out _ _ (k.pre tY))
    clear hTp k1 h1 n1 tY c3
    go_upto_region 18 with fail
    clear hy
    generalize w1.alloc (.cells #[.int .i64 f.k, .int .i64 f.a, .int .i64 f.b, .int .i64 f.x, .int .i64 f.y, .slice ta tn tc] 45) = w2 at *
    have y0 := bY.cell 0
    have b2 : w2.cell? ⟨z, 0, none⟩ = some (.pointer (some ⟨g, 0, none⟩)) := HBX.out.blk.cell 0
    have hP := HP.out _ _ h2
    have c3 := h2.c3
    clear h2 b0 q0 q1 q2
    go_wp2_with fail
    refine hP.mono ?_
    rintro _ w3 ⟨⟨pa, pn, pc, rfl⟩, k3⟩
    have k3 := HN.out _ _ k3
    have b3 : w3.cell? ⟨z, 0, none⟩ = some (.pointer (some ⟨g, 0, none⟩)) := by obtain ⟨_, _, t3, _⟩ := k3; exact HS.out.2.1.at_ t3
    obtain ⟨F3, h3, n3⟩ := k3.open
    have hPl := HPl.out _ _ h3
    clear hP k3 h3 HN y0 bY c3 b2
    go_wp2_with fail
    refine hPl.mono ?_
    rintro _ w4 ⟨rfl, k4⟩
    have k4 := n3.out _ _ k4
    have b4 : w4.cell? ⟨z, 0, none⟩ = some (.pointer (some ⟨g, 0, none⟩)) := by obtain ⟨_, _, t3, _⟩ := k4; exact HS.out.2.1.at_ t3
    obtain ⟨F4, h4, n4⟩ := k4.open
    have hD := HD.out _ _ h4
    clear hPl k4 h4 b3 n3
    go_wp2_with fail
    refine hD.mono ?_
    rintro _ w5 ⟨rfl, k5⟩
    have k5 := n4.out _ _ k5
    have hb := HS.out.1.blk k5
    obtain ⟨⟨e0, e1, e2⟩, g0, g1, g2⟩ := zeros_of hb
    obtain ⟨r0, r1, r2⟩ := three_read hb (.int .i64 sa) (.int .i64 sb) (.int .i64 sc)
    have HK := Lib.hid (HS.out.1.end_ k5 (.int .i64 sa) (.int .i64 sb) (.int .i64 sc))
    clear k5 hb hD b4
    go_wp2_with fail
    refine bodyPost_ret (by simp [results, Tryz.results87, go_sem, r0, r1, r2]; try rfl) rfl ?_
    exact ⟨rfl, HK.out⟩
  · rw [if_neg h4]
    obtain ⟨f, ef⟩ : ∃ f, topF m.fr = f := ⟨_, rfl⟩
    rw [ef] at hTp h4
    obtain ⟨ok, hok⟩ : ∃ ok, decide (m.fr ≠ []) = ok := ⟨_, rfl⟩
    rw [hok] at hTp
    have kk4 : (f.k == 4) = false := by simpa using h4
    have HPl := Lib.hid (fun (W : World) F1 (hW : EngAt W g p F1 m) => place_sem hW 0 0)
    have hpf : Fine { m with df := 0, on := 0 } := hf.at_ 0 0 _
    obtain ⟨pm, hpm⟩ : ∃ pm : M, { m with df := 0, on := 0 } = pm := ⟨_, rfl⟩
    rw [show m.place 0 0 = pm from hpm] at HPl
    rw [hpm] at hpf ⊢
    have HD := Lib.hid (fun (W : World) F1 (hW : EngAt W g p F1 pm) => done_sem hW hpf 0)
    obtain ⟨⟨⟨sa, sb, sc⟩, m'⟩, hq⟩ : ∃ q, M.done (0, pm) = q := ⟨_, rfl⟩
    rw [hq] at HD ⊢
    clear hq hpf hpm hE0 h hf h4 ef hok
    go_enter Tryz.func87, Tryz.ntmps87
    go_upto_region 1 with fail
    clear hz
    generalize ((w.alloc (.cells #[.pointer (some ⟨g, 0, none⟩)] 27)).alloc (.cells #[.int .u8 op, .int .i64 a, .int .i64 v] 56)).alloc (.cells #[.int .i64 0, .int .i64 0, .int .i64 0] 48) = W0 at *
    go_wp2_with fail
    refine hTp.mono ?_
    rintro _ w1 ⟨ta, tn, tc, rfl, k1⟩
    have tY := (Touch.refl [] w1).alloc (.cells #[.int .i64 f.k, .int .i64 f.a, .int .i64 f.b, .int .i64 f.x, .int .i64 f.y, .slice ta tn tc] 45)
    have bY := Blk.new w1 45 #[.int .i64 f.k, .int .i64 f.a, .int .i64 f.b, .int .i64 f.x, .int .i64 f.y, .slice ta tn tc]
    obtain ⟨y, hy⟩ : ∃ y, w1.heap.size = y := ⟨_, rfl⟩
    rw [hy] at bY
    have HBX := Lib.hid (show Cap (w1.alloc (.cells #[.int .i64 f.k, .int .i64 f.a, .int .i64 f.b, .int .i64 f.x, .int .i64 f.y, .slice ta tn tc] 45)) F z g by obtain ⟨_, _, t1, _⟩ := k1; exact ⟨(HS.out.2.1.blk.touch t1 HS.out.2.1.off).alloc _, HS.out.2.1.off⟩)
    have tw := Lib.hid (show Touch F W0 (w1.alloc (.cells #[.int .i64 f.k, .int .i64 f.a, .int .i64 f.b, .int .i64 f.x, .int .i64 f.y, .slice ta tn tc] 45)) by obtain ⟨_, _, t1, _⟩ := k1; exact t1.alloc _)
    obtain ⟨F1, h1, n1⟩ := k1.open
    have hyF : y ∉ F1 := fun hx => by have := h1.lt y hx; omega
    have h2 := h1.touch tY (by simp)
    have HN := Lib.hid (fun (m2 : M) (W2 : World) (k : Keep (w1.alloc (.cells #[.int .i64 f.k, .int .i64 f.a, .int .i64 f.b, .int .i64 f.x, .int .i64 f.y, .slice ta tn tc] 45)) g p F1 m2 W2) => n1.out _ _ (k.pre tY))
    clear hTp k1 h1 n1 tY c3
    go_upto_region 18 with fail
    clear hy
    generalize w1.alloc (.cells #[.int .i64 f.k, .int .i64 f.a, .int .i64 f.b, .int .i64 f.x, .int .i64 f.y, .slice ta tn tc] 45) = w2 at *
    have y0 := bY.cell 0
    have b2 : w2.cell? ⟨z, 0, none⟩ = some (.pointer (some ⟨g, 0, none⟩)) := HBX.out.blk.cell 0
    have hPl := HPl.out _ _ h2
    clear h2 b0 q0 q1 q2
    go_wp2_with fail
    refine hPl.mono ?_
    rintro _ w4 ⟨rfl, k4⟩
    have k4 := HN.out _ _ k4
    have b4 : w4.cell? ⟨z, 0, none⟩ = some (.pointer (some ⟨g, 0, none⟩)) := by obtain ⟨_, _, t3, _⟩ := k4; exact HS.out.2.1.at_ t3
    obtain ⟨F4, h4, n4⟩ := k4.open
    have hD := HD.out _ _ h4
    clear hPl k4 h4 b2 HN y0 bY
    go_wp2_with fail
    refine hD.mono ?_
    rintro _ w5 ⟨rfl, k5⟩
    have k5 := n4.out _ _ k5
    have hb := HS.out.1.blk k5
    obtain ⟨⟨e0, e1, e2⟩, g0, g1, g2⟩ := zeros_of hb
    obtain ⟨r0, r1, r2⟩ := three_read hb (.int .i64 sa) (.int .i64 sb) (.int .i64 sc)
    have HK := Lib.hid (HS.out.1.end_ k5 (.int .i64 sa) (.int .i64 sb) (.int .i64 sc))
    clear k5 hb hD b4
    go_wp2_with fail
    refine bodyPost_ret (by simp [results, Tryz.results87, go_sem, r0, r1, r2]; try rfl) rfl ?_
    exact ⟨rfl, HK.out⟩
end En
end Go.Proofs.YtdokeddjcpnmiaaGreatDoor
