import Derived.Test.YtdokeddjcpnmiaaGreatDoorKEngE
import Derived.Test.YtdokeddjcpnmiaaGreatDoorKEng21
/- What a word does (printed by wip/engfn.py). -/
namespace Go.Proofs.YtdokeddjcpnmiaaGreatDoor
open Go.RowKit
namespace En

set_option maxRecDepth 100000 in
set_option maxHeartbeats 1600000 in
theorem exec_none_sem {w : World} {g : Nat} {p : Lay} {F : List Nat} {m : M} (h : EngAt w g p F m) (hf : Fine m) (xt : Int) (hw : m.word xt = none) : Calls Tryz.prog 45 #[.pointer (some ⟨g, 0, none⟩), .int .i64 xt] w fun R w' => R = .returned (stV (m.throw (-9)).1) ∧ Keep w g p F (m.throw (-9)).2 w' := by
  obtain ⟨z, hz⟩ : ∃ z, w.heap.size = z := ⟨_, rfl⟩
  have HS := Lib.hid (Start.box1 w h)
  have hE0 := h.touch HS.out.1.t (by simp)
  rw [hz] at HS
  have hF := find_sem hE0 hf.words xt
  unfold FoundW at hF
  rw [hw] at hF
  have hFl := hE0.lt
  have b0 := HS.out.2.at_ (Touch.refl F _)
  have HT := Lib.hid (fun (W : World) F1 (hW : EngAt W g p F1 m) => throw_sem hW hf (-9))
  obtain ⟨⟨⟨sa, sb, sc⟩, m'⟩, hq⟩ : ∃ q, m.throw (-9) = q := ⟨_, rfl⟩
  rw [hq] at HT ⊢
  clear hq h hf hw
  go_enter Tryz.func45, Tryz.ntmps45
  go_upto_region 1 with fail
  clear hz
  generalize (w.alloc (.cells #[.pointer (some ⟨g, 0, none⟩)] 27)).alloc (.cells #[.int .i64 0, .int .i64 0, .int .i64 0] 48) = W0 at *
  go_wp2_with fail
  refine hF.mono ?_
  rintro _ _ ⟨_, rfl, rfl, rfl⟩
  have hT := HT.out _ _ hE0
  clear hF hE0
  go_wp2_with fail
  refine hT.mono ?_
  rintro _ w1 ⟨rfl, k1⟩
  have hb := HS.out.1.blk k1
  obtain ⟨⟨e0, e1, e2⟩, g0, g1, g2⟩ := zeros_of hb
  obtain ⟨r0, r1, r2⟩ := three_read hb (.int .i64 sa) (.int .i64 sb) (.int .i64 sc)
  have HK := Lib.hid (HS.out.1.end_ k1 (.int .i64 sa) (.int .i64 sb) (.int .i64 sc))
  clear k1 hb hT b0
  go_wp2_with fail
  refine bodyPost_ret (by simp [results, Tryz.results45, go_sem, r0, r1, r2]; try rfl) rfl ?_
  exact ⟨rfl, HK.out⟩
set_option maxRecDepth 100000 in
set_option maxHeartbeats 3200000 in
theorem exec_call_sem {w : World} {g : Nat} {p : Lay} {F : List Nat} {m : M} (h : EngAt w g p F m) (hf : Fine m) (xt n v : Int) (hw : m.word xt = some (5, n, v)) : Calls Tryz.prog 45 #[.pointer (some ⟨g, 0, none⟩), .int .i64 xt] w fun R w' => R = .returned (stV (M.done (m.call n)).1) ∧ Keep w g p F (M.done (m.call n)).2 w' := by
  obtain ⟨z, hz⟩ : ∃ z, w.heap.size = z := ⟨_, rfl⟩
  have HS := Lib.hid (Start.box1 w h)
  have hE0 := h.touch HS.out.1.t (by simp)
  rw [hz] at HS
  have hF := find_sem hE0 hf.words xt
  unfold FoundW at hF
  rw [hw] at hF
  have hFl := hE0.lt
  have b0 := HS.out.2.at_ (Touch.refl F _)
  have HA := Lib.hid (fun (W : World) F1 (hW : EngAt W g p F1 m) => call_sem hW n)
  have hpf := hf.call n
  obtain ⟨⟨pe, pm⟩, hp⟩ : ∃ q, m.call n = q := ⟨_, rfl⟩
  rw [hp] at HA hpf ⊢
  dsimp only at hpf
  have HD := Lib.hid (fun (W : World) F1 (hW : EngAt W g p F1 pm) => done_sem hW hpf pe)
  obtain ⟨⟨⟨sa, sb, sc⟩, m'⟩, hq⟩ : ∃ q, M.done (pe, pm) = q := ⟨_, rfl⟩
  rw [hq] at HD ⊢
  clear hq hp hpf h hf hw
  go_enter Tryz.func45, Tryz.ntmps45
  go_upto_region 1 with fail
  clear hz
  generalize (w.alloc (.cells #[.pointer (some ⟨g, 0, none⟩)] 27)).alloc (.cells #[.int .i64 0, .int .i64 0, .int .i64 0] 48) = W0 at *
  go_wp2_with fail
  refine hF.mono ?_
  rintro _ _ ⟨_, rfl, rfl, b, i, rfl, hbF, hi0, k0, k1, k2⟩
  clear hi0
  have tY := (Touch.refl [] W0).alloc (.cells #[.int .i64 5, .int .i64 n, .int .i64 v] 35)
  have bY := Blk.new W0 35 #[.int .i64 5, .int .i64 n, .int .i64 v]
  have hE1 := hE0.touch tY (by simp)
  have HB := Lib.hid (show Cap (W0.alloc (.cells #[.int .i64 5, .int .i64 n, .int .i64 v] 35)) F z g from ⟨HS.out.2.blk.alloc _, HS.out.2.off⟩)
  obtain ⟨y, hy⟩ : ∃ y, W0.heap.size = y := ⟨_, rfl⟩
  have hyF : y ∉ F := fun hx => by have := hFl y hx; omega
  rw [hy] at bY
  have HC := Lib.hid (show CapW (W0.alloc (.cells #[.int .i64 5, .int .i64 n, .int .i64 v] 35)) F y 5 n v from ⟨bY, hyF⟩)
  clear hF hE0 hyF hFl hbF
  go_upto_region 5 with fail
  clear hy
  generalize W0.alloc (.cells #[.int .i64 5, .int .i64 n, .int .i64 v] 35) = W1 at *
  have y0 := bY.cell 0
  have y1 := bY.cell 1
  have y2 := bY.cell 2
  have b1 := HB.out.at_ (Touch.refl F _)
  have HT := Lib.hid tY
  clear tY bY k0 k1 k2 b0 
  go_upto_region 10 with fail
  have HE := Lib.hid (hE1.touch (Touch.refl [] W1).drew (by simp))
  clear hE1
  go_region_law (first
    | (go_simp; go_at_call 65; refine Calls.mono (HA.out _ _ HE.out) ?_; rintro _ w5 ⟨rfl, k5⟩; have k5 := k5.pre (Touch.refl [] W1).drew; have b5 : w5.cell? ⟨z, 0, none⟩ = some (.pointer (some ⟨g, 0, none⟩)) := (by obtain ⟨_, _, t5, _⟩ := k5; exact HB.out.at_ t5); obtain ⟨F5, h5, n5⟩ := k5.open; have H5 := Lib.hid h5; clear h5 k5)
    | (go_simp; go_at_call 63; refine Calls.mono (HD.out _ _ H5.out) ?_; rintro _ w6 ⟨rfl, k6⟩; have k6 := (n5.out _ _ k6).pre HT.out; have hb := HS.out.1.blk k6; obtain ⟨⟨e0, e1, e2⟩, g0, g1, g2⟩ := zeros_of hb; have hr := three_read hb (.int .i64 sa) (.int .i64 sb) (.int .i64 sc); have HK := Lib.hid (And.intro hr (HS.out.1.end_ k6 (.int .i64 sa) (.int .i64 sb) (.int .i64 sc))); clear hr hb k6))
  all_goals obtain ⟨⟨r0, r1, r2⟩, hK⟩ := HK.out
  all_goals have HK := Lib.hid hK
  all_goals clear hK
  all_goals go_wp2_with fail
  all_goals refine bodyPost_ret (by simp [results, Tryz.results45, go_sem, r0, r1, r2]; try rfl) rfl ?_
  all_goals exact ⟨rfl, HK.out⟩
set_option maxRecDepth 100000 in
set_option maxHeartbeats 3200000 in
theorem exec_cell_sem {w : World} {g : Nat} {p : Lay} {F : List Nat} {m : M} (h : EngAt w g p F m) (hf : Fine m) (xt n v : Int) (hw : m.word xt = some (6, n, v)) : Calls Tryz.prog 45 #[.pointer (some ⟨g, 0, none⟩), .int .i64 xt] w fun R w' => R = .returned (stV (M.done (m.push v)).1) ∧ Keep w g p F (M.done (m.push v)).2 w' := by
  obtain ⟨z, hz⟩ : ∃ z, w.heap.size = z := ⟨_, rfl⟩
  have HS := Lib.hid (Start.box1 w h)
  have hE0 := h.touch HS.out.1.t (by simp)
  rw [hz] at HS
  have hF := find_sem hE0 hf.words xt
  unfold FoundW at hF
  rw [hw] at hF
  have hFl := hE0.lt
  have b0 := HS.out.2.at_ (Touch.refl F _)
  have HA := Lib.hid (fun (W : World) F1 (hW : EngAt W g p F1 m) => push_sem hW hf.st v)
  have hpf := hf.push v
  obtain ⟨⟨pe, pm⟩, hp⟩ : ∃ q, m.push v = q := ⟨_, rfl⟩
  rw [hp] at HA hpf ⊢
  dsimp only at hpf
  have HD := Lib.hid (fun (W : World) F1 (hW : EngAt W g p F1 pm) => done_sem hW hpf pe)
  obtain ⟨⟨⟨sa, sb, sc⟩, m'⟩, hq⟩ : ∃ q, M.done (pe, pm) = q := ⟨_, rfl⟩
  rw [hq] at HD ⊢
  clear hq hp hpf h hf hw
  go_enter Tryz.func45, Tryz.ntmps45
  go_upto_region 1 with fail
  clear hz
  generalize (w.alloc (.cells #[.pointer (some ⟨g, 0, none⟩)] 27)).alloc (.cells #[.int .i64 0, .int .i64 0, .int .i64 0] 48) = W0 at *
  go_wp2_with fail
  refine hF.mono ?_
  rintro _ _ ⟨_, rfl, rfl, b, i, rfl, hbF, hi0, k0, k1, k2⟩
  clear hi0
  have tY := (Touch.refl [] W0).alloc (.cells #[.int .i64 6, .int .i64 n, .int .i64 v] 35)
  have bY := Blk.new W0 35 #[.int .i64 6, .int .i64 n, .int .i64 v]
  have hE1 := hE0.touch tY (by simp)
  have HB := Lib.hid (show Cap (W0.alloc (.cells #[.int .i64 6, .int .i64 n, .int .i64 v] 35)) F z g from ⟨HS.out.2.blk.alloc _, HS.out.2.off⟩)
  obtain ⟨y, hy⟩ : ∃ y, W0.heap.size = y := ⟨_, rfl⟩
  have hyF : y ∉ F := fun hx => by have := hFl y hx; omega
  rw [hy] at bY
  have HC := Lib.hid (show CapW (W0.alloc (.cells #[.int .i64 6, .int .i64 n, .int .i64 v] 35)) F y 6 n v from ⟨bY, hyF⟩)
  clear hF hE0 hyF hFl hbF
  go_upto_region 5 with fail
  clear hy
  generalize W0.alloc (.cells #[.int .i64 6, .int .i64 n, .int .i64 v] 35) = W1 at *
  have y0 := bY.cell 0
  have y1 := bY.cell 1
  have y2 := bY.cell 2
  have b1 := HB.out.at_ (Touch.refl F _)
  have HT := Lib.hid tY
  clear tY bY k0 k1 k2 b0 
  go_upto_region 13 with fail
  have HE := Lib.hid (hE1.touch (Touch.refl [] W1).drew (by simp))
  clear hE1
  go_region_law (first
    | (go_simp; go_at_call 66; refine Calls.mono (HA.out _ _ HE.out) ?_; rintro _ w5 ⟨rfl, k5⟩; have k5 := k5.pre (Touch.refl [] W1).drew; have b5 : w5.cell? ⟨z, 0, none⟩ = some (.pointer (some ⟨g, 0, none⟩)) := (by obtain ⟨_, _, t5, _⟩ := k5; exact HB.out.at_ t5); obtain ⟨F5, h5, n5⟩ := k5.open; have H5 := Lib.hid h5; clear h5 k5)
    | (go_simp; go_at_call 63; refine Calls.mono (HD.out _ _ H5.out) ?_; rintro _ w6 ⟨rfl, k6⟩; have k6 := (n5.out _ _ k6).pre HT.out; have hb := HS.out.1.blk k6; obtain ⟨⟨e0, e1, e2⟩, g0, g1, g2⟩ := zeros_of hb; have hr := three_read hb (.int .i64 sa) (.int .i64 sb) (.int .i64 sc); have HK := Lib.hid (And.intro hr (HS.out.1.end_ k6 (.int .i64 sa) (.int .i64 sb) (.int .i64 sc))); clear hr hb k6))
  all_goals obtain ⟨⟨r0, r1, r2⟩, hK⟩ := HK.out
  all_goals have HK := Lib.hid hK
  all_goals clear hK
  all_goals go_wp2_with fail
  all_goals refine bodyPost_ret (by simp [results, Tryz.results45, go_sem, r0, r1, r2]; try rfl) rfl ?_
  all_goals exact ⟨rfl, HK.out⟩
set_option maxRecDepth 100000 in
set_option maxHeartbeats 3200000 in
theorem exec_value_sem {w : World} {g : Nat} {p : Lay} {F : List Nat} {m : M} (h : EngAt w g p F m) (hf : Fine m) (xt n v : Int) (hw : m.word xt = some (9, n, v)) : Calls Tryz.prog 45 #[.pointer (some ⟨g, 0, none⟩), .int .i64 xt] w fun R w' => R = .returned (stV (M.done (m.push v)).1) ∧ Keep w g p F (M.done (m.push v)).2 w' := by
  obtain ⟨z, hz⟩ : ∃ z, w.heap.size = z := ⟨_, rfl⟩
  have HS := Lib.hid (Start.box1 w h)
  have hE0 := h.touch HS.out.1.t (by simp)
  rw [hz] at HS
  have hF := find_sem hE0 hf.words xt
  unfold FoundW at hF
  rw [hw] at hF
  have hFl := hE0.lt
  have b0 := HS.out.2.at_ (Touch.refl F _)
  have HA := Lib.hid (fun (W : World) F1 (hW : EngAt W g p F1 m) => push_sem hW hf.st v)
  have hpf := hf.push v
  obtain ⟨⟨pe, pm⟩, hp⟩ : ∃ q, m.push v = q := ⟨_, rfl⟩
  rw [hp] at HA hpf ⊢
  dsimp only at hpf
  have HD := Lib.hid (fun (W : World) F1 (hW : EngAt W g p F1 pm) => done_sem hW hpf pe)
  obtain ⟨⟨⟨sa, sb, sc⟩, m'⟩, hq⟩ : ∃ q, M.done (pe, pm) = q := ⟨_, rfl⟩
  rw [hq] at HD ⊢
  clear hq hp hpf h hf hw
  go_enter Tryz.func45, Tryz.ntmps45
  go_upto_region 1 with fail
  clear hz
  generalize (w.alloc (.cells #[.pointer (some ⟨g, 0, none⟩)] 27)).alloc (.cells #[.int .i64 0, .int .i64 0, .int .i64 0] 48) = W0 at *
  go_wp2_with fail
  refine hF.mono ?_
  rintro _ _ ⟨_, rfl, rfl, b, i, rfl, hbF, hi0, k0, k1, k2⟩
  clear hi0
  have tY := (Touch.refl [] W0).alloc (.cells #[.int .i64 9, .int .i64 n, .int .i64 v] 35)
  have bY := Blk.new W0 35 #[.int .i64 9, .int .i64 n, .int .i64 v]
  have hE1 := hE0.touch tY (by simp)
  have HB := Lib.hid (show Cap (W0.alloc (.cells #[.int .i64 9, .int .i64 n, .int .i64 v] 35)) F z g from ⟨HS.out.2.blk.alloc _, HS.out.2.off⟩)
  obtain ⟨y, hy⟩ : ∃ y, W0.heap.size = y := ⟨_, rfl⟩
  have hyF : y ∉ F := fun hx => by have := hFl y hx; omega
  rw [hy] at bY
  have HC := Lib.hid (show CapW (W0.alloc (.cells #[.int .i64 9, .int .i64 n, .int .i64 v] 35)) F y 9 n v from ⟨bY, hyF⟩)
  clear hF hE0 hyF hFl hbF
  go_upto_region 5 with fail
  clear hy
  generalize W0.alloc (.cells #[.int .i64 9, .int .i64 n, .int .i64 v] 35) = W1 at *
  have y0 := bY.cell 0
  have y1 := bY.cell 1
  have y2 := bY.cell 2
  have b1 := HB.out.at_ (Touch.refl F _)
  have HT := Lib.hid tY
  clear tY bY k0 k1 k2 b0 
  go_upto_region 13 with fail
  have HE := Lib.hid (hE1.touch (Touch.refl [] W1).drew (by simp))
  clear hE1
  go_region_law (first
    | (go_simp; go_at_call 66; refine Calls.mono (HA.out _ _ HE.out) ?_; rintro _ w5 ⟨rfl, k5⟩; have k5 := k5.pre (Touch.refl [] W1).drew; have b5 : w5.cell? ⟨z, 0, none⟩ = some (.pointer (some ⟨g, 0, none⟩)) := (by obtain ⟨_, _, t5, _⟩ := k5; exact HB.out.at_ t5); obtain ⟨F5, h5, n5⟩ := k5.open; have H5 := Lib.hid h5; clear h5 k5)
    | (go_simp; go_at_call 63; refine Calls.mono (HD.out _ _ H5.out) ?_; rintro _ w6 ⟨rfl, k6⟩; have k6 := (n5.out _ _ k6).pre HT.out; have hb := HS.out.1.blk k6; obtain ⟨⟨e0, e1, e2⟩, g0, g1, g2⟩ := zeros_of hb; have hr := three_read hb (.int .i64 sa) (.int .i64 sb) (.int .i64 sc); have HK := Lib.hid (And.intro hr (HS.out.1.end_ k6 (.int .i64 sa) (.int .i64 sb) (.int .i64 sc))); clear hr hb k6))
  all_goals obtain ⟨⟨r0, r1, r2⟩, hK⟩ := HK.out
  all_goals have HK := Lib.hid hK
  all_goals clear hK
  all_goals go_wp2_with fail
  all_goals refine bodyPost_ret (by simp [results, Tryz.results45, go_sem, r0, r1, r2]; try rfl) rfl ?_
  all_goals exact ⟨rfl, HK.out⟩
/-- what is done by a number at the engine's state -/
def DoOk (wB : World) (D : Int → PS → Int × PS) (s : Nat) (S : PS) (op : Int) : Prop := ∀ W F', StateAt W s F' S → (∀ x ∈ F', wB.heap.size ≤ x) → Touch [] wB W →
  Calls Tryz.prog 64 #[.pointer (some ⟨s, 0, none⟩), .int .i64 op] W fun e w' => ∃ F'', e = .returned (.int .i64 (D op S).1) ∧ StateAt w' s F'' (D op S).2 ∧ Touch F' W w' ∧ Sub W F' F''
theorem do_eng {wB w : World} {g : Nat} {p : Lay} {F : List Nat} {m : M} (h : EngAt w g p F m) (hF : ∀ x ∈ F, wB.heap.size ≤ x) (t : Touch [] wB w) {D : Int → PS → Int × PS} {op : Int} (hD : DoOk wB D p.s m.S op) :
    Calls Tryz.prog 64 #[.pointer (some ⟨p.s, 0, none⟩), .int .i64 op] w fun e w' => e = .returned (.int .i64 (D op m.S).1) ∧ Keep w g p F { m with S := (D op m.S).2 } w' := by
  obtain ⟨cv, ev, wv, Ff, FS, FI, h, rfl⟩ := h
  refine (hD w FS h.st (fun x hx => hF x (foot_mem.2 (by simp [hx]))) t).mono ?_
  rintro _ w1 ⟨F', rfl, h1, t1, s1⟩
  exact ⟨rfl, h.stt h1 t1 s1⟩
set_option maxRecDepth 100000 in
set_option maxHeartbeats 3200000 in
theorem exec_prim_sem {w : World} {g : Nat} {p : Lay} {F : List Nat} {m : M} (h : EngAt w g p F m) (hf : Fine m) (xt n v : Int) (hw : m.word xt = some (1, n, v)) {wB : World} (hF0 : ∀ x ∈ F, wB.heap.size ≤ x) (tB : Touch [] wB w) {D : Int → PS → Int × PS} (hDf : FineD PS.ok D) (hD : DoOk wB D p.s m.S n) : Calls Tryz.prog 45 #[.pointer (some ⟨g, 0, none⟩), .int .i64 xt] w fun R w' => R = .returned (stV (M.done ((D n m.S).1, { m with S := (D n m.S).2 })).1) ∧ Keep w g p F (M.done ((D n m.S).1, { m with S := (D n m.S).2 })).2 w' := by
  obtain ⟨z, hz⟩ : ∃ z, w.heap.size = z := ⟨_, rfl⟩
  have HS := Lib.hid (Start.box1 w h)
  have hE0 := h.touch HS.out.1.t (by simp)
  rw [hz] at HS
  have hF := find_sem hE0 hf.words xt
  unfold FoundW at hF
  rw [hw] at hF
  have hFl := hE0.lt
  have b0 := HS.out.2.at_ (Touch.refl F _)
  have HA := Lib.hid (fun (W : World) (hW : EngAt W g p F m) (t : Touch [] wB W) => do_eng hW hF0 t hD)
  have HTB := Lib.hid (tB.trans HS.out.1.t (by simp))
  have hpf : Fine { m with S := (D n m.S).2 } := by
    obtain ⟨d1, d2⟩ := hDf n m.S hf.st hf.ok
    exact hf.turn d1 d2 hf.fr rfl rfl rfl rfl
  obtain ⟨pe, hpe⟩ : ∃ q, (D n m.S).1 = q := ⟨_, rfl⟩
  obtain ⟨pm, hpm⟩ : ∃ q : M, { m with S := (D n m.S).2 } = q := ⟨_, rfl⟩
  rw [hpe, hpm] at HA ⊢
  rw [hpm] at hpf
  have HD := Lib.hid (fun (W : World) F1 (hW : EngAt W g p F1 pm) => done_sem hW hpf pe)
  obtain ⟨⟨⟨sa, sb, sc⟩, m'⟩, hq⟩ : ∃ q, M.done (pe, pm) = q := ⟨_, rfl⟩
  rw [hq] at HD ⊢
  clear hq hpe hpm hpf h hf hw hF0 tB hDf hD
  go_enter Tryz.func45, Tryz.ntmps45
  go_upto_region 1 with fail
  clear hz
  generalize (w.alloc (.cells #[.pointer (some ⟨g, 0, none⟩)] 27)).alloc (.cells #[.int .i64 0, .int .i64 0, .int .i64 0] 48) = W0 at *
  go_wp2_with fail
  refine hF.mono ?_
  rintro _ _ ⟨_, rfl, rfl, b, i, rfl, hbF, hi0, k0, k1, k2⟩
  clear hi0
  have tY := (Touch.refl [] W0).alloc (.cells #[.int .i64 1, .int .i64 n, .int .i64 v] 35)
  have bY := Blk.new W0 35 #[.int .i64 1, .int .i64 n, .int .i64 v]
  have hE1 := hE0.touch tY (by simp)
  have HB := Lib.hid (show Cap (W0.alloc (.cells #[.int .i64 1, .int .i64 n, .int .i64 v] 35)) F z g from ⟨HS.out.2.blk.alloc _, HS.out.2.off⟩)
  obtain ⟨y, hy⟩ : ∃ y, W0.heap.size = y := ⟨_, rfl⟩
  have hyF : y ∉ F := fun hx => by have := hFl y hx; omega
  rw [hy] at bY
  have HC := Lib.hid (show CapW (W0.alloc (.cells #[.int .i64 1, .int .i64 n, .int .i64 v] 35)) F y 1 n v from ⟨bY, hyF⟩)
  clear hF hE0 hyF hFl hbF
  go_upto_region 5 with fail
  clear hy
  generalize W0.alloc (.cells #[.int .i64 1, .int .i64 n, .int .i64 v] 35) = W1 at *
  have y0 := bY.cell 0
  have y1 := bY.cell 1
  have y2 := bY.cell 2
  have b1 := HB.out.at_ (Touch.refl F _)
  have HT := Lib.hid tY
  clear tY bY k0 k1 k2 b0 
  have c7 := hE1.c7
  go_upto_region 8 with fail
  have HE := Lib.hid (hE1.touch (Touch.refl [] W1).drew (by simp))
  clear hE1
  go_region_law (first
    | (go_simp; go_at_call 64; refine Calls.mono (HA.out _ HE.out (HTB.out.trans (HT.out.trans (Touch.refl [] W1).drew (by simp)) (by simp))) ?_; rintro _ w5 ⟨rfl, k5⟩; have k5 := k5.pre (Touch.refl [] W1).drew; have b5 : w5.cell? ⟨z, 0, none⟩ = some (.pointer (some ⟨g, 0, none⟩)) := (by obtain ⟨_, _, t5, _⟩ := k5; exact HB.out.at_ t5); obtain ⟨F5, h5, n5⟩ := k5.open; have H5 := Lib.hid h5; clear h5 k5)
    | (go_simp; go_at_call 63; refine Calls.mono (HD.out _ _ H5.out) ?_; rintro _ w6 ⟨rfl, k6⟩; have k6 := (n5.out _ _ k6).pre HT.out; have hb := HS.out.1.blk k6; obtain ⟨⟨e0, e1, e2⟩, g0, g1, g2⟩ := zeros_of hb; have hr := three_read hb (.int .i64 sa) (.int .i64 sb) (.int .i64 sc); have HK := Lib.hid (And.intro hr (HS.out.1.end_ k6 (.int .i64 sa) (.int .i64 sb) (.int .i64 sc))); clear hr hb k6))
  all_goals obtain ⟨⟨r0, r1, r2⟩, hK⟩ := HK.out
  all_goals have HK := Lib.hid hK
  all_goals clear hK
  all_goals go_wp2_with fail
  all_goals refine bodyPost_ret (by simp [results, Tryz.results45, go_sem, r0, r1, r2]; try rfl) rfl ?_
  all_goals exact ⟨rfl, HK.out⟩
end En
end Go.Proofs.YtdokeddjcpnmiaaGreatDoor
