import Derived.Test.YtdokeddjcpnmiaaGreatDoorKEng22
/- What a word does, further (printed by wip/engfn.py). -/
namespace Go.Proofs.YtdokeddjcpnmiaaGreatDoor
open Go.RowKit
namespace En

theorem ctl_at {g : Nat} {p : Lay} {m : M} (hf : Fine m) (n : Int) (h1 : 1 ≤ n) (h2 : n ≤ 9) : ∃ cf, atKey (ctlL g) n = some (.func (.func cf) #[.pointer (some ⟨g, 0, none⟩)] #[]) ∧ Enters Tryz.prog cf ∧ ∀ W F1, EngAt W g p F1 m → Calls Tryz.prog cf #[.pointer (some ⟨g, 0, none⟩)] W fun R w' => R = .returned (stV (m.control n).1) ∧ Keep W g p F1 (m.control n).2 w' := by
  rcases (by omega : n = 1 ∨ n = 2 ∨ n = 3 ∨ n = 4 ∨ n = 5 ∨ n = 6 ∨ n = 7 ∨ n = 8 ∨ n = 9) with rfl | rfl | rfl | rfl | rfl | rfl | rfl | rfl | rfl
  · exact ⟨99, rfl, enters_of Tryz.func99 (by kernel_rfl) rfl, fun W F1 hW => toR_sem hW hf⟩
  · exact ⟨100, rfl, enters_of Tryz.func100 (by kernel_rfl) rfl, fun W F1 hW => fromR_sem hW hf⟩
  · exact ⟨101, rfl, enters_of Tryz.func101 (by kernel_rfl) rfl, fun W F1 hW => copyR_sem hW hf⟩
  · exact ⟨102, rfl, enters_of Tryz.func102 (by kernel_rfl) rfl, fun W F1 hW => inner_sem hW hf⟩
  · exact ⟨103, rfl, enters_of Tryz.func103 (by kernel_rfl) rfl, fun W F1 hW => outer_sem hW hf⟩
  · exact ⟨104, rfl, enters_of Tryz.func104 (by kernel_rfl) rfl, fun W F1 hW => unloop_sem hW hf⟩
  · exact ⟨105, rfl, enters_of Tryz.func105 (by kernel_rfl) rfl, fun W F1 hW => executes_sem hW hf⟩
  · exact ⟨106, rfl, enters_of Tryz.func106 (by kernel_rfl) rfl, fun W F1 hW => catches_sem hW hf⟩
  · exact ⟨107, rfl, enters_of Tryz.func107 (by kernel_rfl) rfl, fun W F1 hW => throws_sem hW hf⟩
set_option maxRecDepth 100000 in
set_option maxHeartbeats 3200000 in
theorem exec_ctl_sem {w : World} {g : Nat} {p : Lay} {F : List Nat} {m : M} (h : EngAt w g p F m) (hf : Fine m) (xt n v : Int) (hw : m.word xt = some (2, n, v)) (h1 : 1 ≤ n) (h2 : n ≤ 9) : Calls Tryz.prog 45 #[.pointer (some ⟨g, 0, none⟩), .int .i64 xt] w fun R w' => R = .returned (stV (m.control n).1) ∧ Keep w g p F (m.control n).2 w' := by
  obtain ⟨z, hz⟩ : ∃ z, w.heap.size = z := ⟨_, rfl⟩
  have HS := Lib.hid (Start.box1 w h)
  have hE0 := h.touch HS.out.1.t (by simp)
  rw [hz] at HS
  have hF := find_sem hE0 hf.words xt
  unfold FoundW at hF
  rw [hw] at hF
  have hFl := hE0.lt
  have b0 := HS.out.2.at_ (Touch.refl F _)
  obtain ⟨cf, hat, hEn, hC⟩ := ctl_at (g := g) (p := p) hf n h1 h2
  have HC := Lib.hid hC
  obtain ⟨⟨⟨sa, sb, sc⟩, m'⟩, hq⟩ : ∃ q, m.control n = q := ⟨_, rfl⟩
  rw [hq] at HC ⊢
  have HAT := Lib.hid hat
  have hent : ∀ (args : Array Value) (w : World), (callFunc cf args).run Tryz.prog w = .ok (.enter cf args) w := hEn
  clear hq hC hat hEn h hf hw h1 h2
  go_enter Tryz.func45, Tryz.ntmps45
  go_upto_region 1 with fail
  clear hz
  generalize (w.alloc (.cells #[.pointer (some ⟨g, 0, none⟩)] 27)).alloc (.cells #[.int .i64 0, .int .i64 0, .int .i64 0] 48) = W0 at *
  go_wp2_with fail
  refine hF.mono ?_
  rintro _ _ ⟨_, rfl, rfl, b, i, rfl, hbF, hi0, k0, k1, k2⟩
  clear hi0
  have tY := (Touch.refl [] W0).alloc (.cells #[.int .i64 2, .int .i64 n, .int .i64 v] 35)
  have bY := Blk.new W0 35 #[.int .i64 2, .int .i64 n, .int .i64 v]
  have hE1 := hE0.touch tY (by simp)
  have HB := Lib.hid (show Cap (W0.alloc (.cells #[.int .i64 2, .int .i64 n, .int .i64 v] 35)) F z g from ⟨HS.out.2.blk.alloc _, HS.out.2.off⟩)
  obtain ⟨y, hy⟩ : ∃ y, W0.heap.size = y := ⟨_, rfl⟩
  have hyF : y ∉ F := fun hx => by have := hFl y hx; omega
  rw [hy] at bY
  have HCW := Lib.hid (show CapW (W0.alloc (.cells #[.int .i64 2, .int .i64 n, .int .i64 v] 35)) F y 2 n v from ⟨bY, hyF⟩)
  clear hF hE0 hyF hFl hbF
  go_upto_region 5 with fail
  clear hy
  generalize W0.alloc (.cells #[.int .i64 2, .int .i64 n, .int .i64 v] 35) = W1 at *
  have y0 := bY.cell 0
  have y1 := bY.cell 1
  have y2 := bY.cell 2
  have b1 := HB.out.at_ (Touch.refl F _)
  have HT := Lib.hid tY
  clear tY bY k0 k1 k2 b0 
  go_upto_region 22 with fail
  have HE := Lib.hid hE1
  have HY := Lib.hid y1
  clear hE1
  go_region_law (first
    | (go_simp; go_at_call 71; refine Calls.mono (controls_any _ g) ?_; rintro _ w5 ⟨mb, rfl, hM, t5⟩; have t5 := t5.of_drew; have hlk := (hM.lookup (P := Tryz.prog) Tryz.underlying133 Tryz.underlying3 HAT.out).1; have yy5 : w5.cell? ⟨y, 1, none⟩ = some (.int .i64 n) := cell_quiet t5 HY.out; have H5 := Lib.hid (And.intro (HE.out.touch t5 (by simp)) t5); clear hM t5)
    | (go_simp; refine Calls.mono (HC.out _ _ H5.out.1) ?_; rintro _ w6 ⟨rfl, k6⟩; have k6 := (k6.pre H5.out.2).pre HT.out; have hb := HS.out.1.blk k6; obtain ⟨⟨e0, e1, e2⟩, g0, g1, g2⟩ := zeros_of hb; have hr := three_read hb (.int .i64 sa) (.int .i64 sb) (.int .i64 sc); have HK := Lib.hid (And.intro hr (HS.out.1.end_ k6 (.int .i64 sa) (.int .i64 sb) (.int .i64 sc))); clear hr hb k6))
  all_goals obtain ⟨⟨r0, r1, r2⟩, hK⟩ := HK.out
  all_goals have HK := Lib.hid hK
  all_goals clear hK
  all_goals go_wp2_with fail
  all_goals refine bodyPost_ret (by simp [results, Tryz.results45, go_sem, r0, r1, r2]; try rfl) rfl ?_
  all_goals exact ⟨rfl, HK.out⟩
set_option maxRecDepth 100000 in
set_option maxHeartbeats 3200000 in
theorem exec_defer_sem {w : World} {g : Nat} {p : Lay} {F : List Nat} {m : M} (h : EngAt w g p F m) (hf : Fine m) (xt n v : Int) (hw : m.word xt = some (8, n, v)) : Calls Tryz.prog 45 #[.pointer (some ⟨g, 0, none⟩), .int .i64 xt] w fun R w' => R = .returned (stV (m.deferred n).1) ∧ Keep w g p F (m.deferred n).2 w' := by
  obtain ⟨z, hz⟩ : ∃ z, w.heap.size = z := ⟨_, rfl⟩
  have HS := Lib.hid (Start.box1 w h)
  have hE0 := h.touch HS.out.1.t (by simp)
  rw [hz] at HS
  have hF := find_sem hE0 hf.words xt
  unfold FoundW at hF
  rw [hw] at hF
  have hFl := hE0.lt
  have b0 := HS.out.2.at_ (Touch.refl F _)
  have HA := Lib.hid (fun (W : World) F1 (hW : EngAt W g p F1 m) => deferred_sem hW hf n)
  obtain ⟨⟨⟨sa, sb, sc⟩, m'⟩, hq⟩ : ∃ q, m.deferred n = q := ⟨_, rfl⟩
  rw [hq] at HA ⊢
  clear hq h hf hw
  go_enter Tryz.func45, Tryz.ntmps45
  go_upto_region 1 with fail
  clear hz
  generalize (w.alloc (.cells #[.pointer (some ⟨g, 0, none⟩)] 27)).alloc (.cells #[.int .i64 0, .int .i64 0, .int .i64 0] 48) = W0 at *
  go_wp2_with fail
  refine hF.mono ?_
  rintro _ _ ⟨_, rfl, rfl, b, i, rfl, hbF, hi0, k0, k1, k2⟩
  clear hi0
  have tY := (Touch.refl [] W0).alloc (.cells #[.int .i64 8, .int .i64 n, .int .i64 v] 35)
  have bY := Blk.new W0 35 #[.int .i64 8, .int .i64 n, .int .i64 v]
  have hE1 := hE0.touch tY (by simp)
  have HB := Lib.hid (show Cap (W0.alloc (.cells #[.int .i64 8, .int .i64 n, .int .i64 v] 35)) F z g from ⟨HS.out.2.blk.alloc _, HS.out.2.off⟩)
  obtain ⟨y, hy⟩ : ∃ y, W0.heap.size = y := ⟨_, rfl⟩
  have hyF : y ∉ F := fun hx => by have := hFl y hx; omega
  rw [hy] at bY
  have HC := Lib.hid (show CapW (W0.alloc (.cells #[.int .i64 8, .int .i64 n, .int .i64 v] 35)) F y 8 n v from ⟨bY, hyF⟩)
  clear hF hE0 hyF hFl hbF
  go_upto_region 5 with fail
  clear hy
  generalize W0.alloc (.cells #[.int .i64 8, .int .i64 n, .int .i64 v] 35) = W1 at *
  have y0 := bY.cell 0
  have y1 := bY.cell 1
  have y2 := bY.cell 2
  have b1 := HB.out.at_ (Touch.refl F _)
  have HT := Lib.hid tY
  clear tY bY k0 k1 k2 b0 
  have hA := HA.out _ _ hE1
  clear hE1
  go_wp2_with fail
  refine hA.mono ?_
  rintro _ w2 ⟨rfl, k2⟩
  have k2 := k2.pre HT.out
  have hb := HS.out.1.blk k2
  obtain ⟨⟨e0, e1, e2⟩, g0, g1, g2⟩ := zeros_of hb
  obtain ⟨r0, r1, r2⟩ := three_read hb (.int .i64 sa) (.int .i64 sb) (.int .i64 sc)
  have HK := Lib.hid (HS.out.1.end_ k2 (.int .i64 sa) (.int .i64 sb) (.int .i64 sc))
  clear k2 hb hA
  go_wp2_with fail
  refine bodyPost_ret (by simp [results, Tryz.results45, go_sem, r0, r1, r2]; try rfl) rfl ?_
  exact ⟨rfl, HK.out⟩
set_option maxRecDepth 100000 in
set_option maxHeartbeats 3200000 in
theorem exec_host_sem {w : World} {g : Nat} {p : Lay} {F : List Nat} {m : M} (h : EngAt w g p F m) (hf : Fine m) (xt k n v : Int) (hw : m.word xt = some (k, n, v)) (hk : (k == 1) = false ∧ (k == 5) = false ∧ (k == 6) = false ∧ (k == 9) = false ∧ (k == 7) = false ∧ (k == 8) = false ∧ (k == 2) = false) : Calls Tryz.prog 45 #[.pointer (some ⟨g, 0, none⟩), .int .i64 xt] w fun R w' => R = .returned (stV (((2, k, n), m)).1) ∧ Keep w g p F (((2, k, n), m)).2 w' := by
  obtain ⟨z, hz⟩ : ∃ z, w.heap.size = z := ⟨_, rfl⟩
  have HS := Lib.hid (Start.box1 w h)
  have hE0 := h.touch HS.out.1.t (by simp)
  rw [hz] at HS
  have hF := find_sem hE0 hf.words xt
  unfold FoundW at hF
  rw [hw] at hF
  have hFl := hE0.lt
  have b0 := HS.out.2.at_ (Touch.refl F _)
  obtain ⟨q1, q5, q6, q9, q7, q8, q2⟩ := hk
  clear h hf hw
  go_enter Tryz.func45, Tryz.ntmps45
  go_upto_region 1 with fail
  clear hz
  generalize (w.alloc (.cells #[.pointer (some ⟨g, 0, none⟩)] 27)).alloc (.cells #[.int .i64 0, .int .i64 0, .int .i64 0] 48) = W0 at *
  go_wp2_with fail
  refine hF.mono ?_
  rintro _ _ ⟨_, rfl, rfl, b, i, rfl, hbF, hi0, k0, k1, k2⟩
  clear hi0
  have tY := (Touch.refl [] W0).alloc (.cells #[.int .i64 k, .int .i64 n, .int .i64 v] 35)
  have bY := Blk.new W0 35 #[.int .i64 k, .int .i64 n, .int .i64 v]
  have hE1 := hE0.touch tY (by simp)
  have HB := Lib.hid (show Cap (W0.alloc (.cells #[.int .i64 k, .int .i64 n, .int .i64 v] 35)) F z g from ⟨HS.out.2.blk.alloc _, HS.out.2.off⟩)
  obtain ⟨y, hy⟩ : ∃ y, W0.heap.size = y := ⟨_, rfl⟩
  have hyF : y ∉ F := fun hx => by have := hFl y hx; omega
  rw [hy] at bY
  have HC := Lib.hid (show CapW (W0.alloc (.cells #[.int .i64 k, .int .i64 n, .int .i64 v] 35)) F y k n v from ⟨bY, hyF⟩)
  clear hF hE0 hyF hFl hbF
  go_upto_region 5 with fail
  clear hy
  generalize W0.alloc (.cells #[.int .i64 k, .int .i64 n, .int .i64 v] 35) = W1 at *
  have y0 := bY.cell 0
  have y1 := bY.cell 1
  have y2 := bY.cell 2
  have b1 := HB.out.at_ (Touch.refl F _)
  have HT := Lib.hid tY
  clear tY bY k0 k1 k2 b0 
  have k2 := (Keep.refl hE1).pre HT.out
  have hb := HS.out.1.blk k2
  obtain ⟨⟨e0, e1, e2⟩, g0, g1, g2⟩ := zeros_of hb
  obtain ⟨r0, r1, r2⟩ := three_read hb (.int .i64 2) (.int .i64 k) (.int .i64 n)
  have HK := Lib.hid (HS.out.1.end_ k2 (.int .i64 2) (.int .i64 k) (.int .i64 n))
  clear k2 hb hE1
  go_wp2_with fail
  refine bodyPost_ret (by simp [results, Tryz.results45, go_sem, r0, r1, r2]; try rfl) rfl ?_
  exact ⟨rfl, HK.out⟩
theorem does_with (m : M) (n : Int) : m.with_ 0 (doesDo n) = if (m.call n).1 = 0 then (ran, (m.call n).2) else ({ (m.call n).2 with S := { (m.call n).2.S with st := (m.call n).2.S.st.dropLast } } : M).throw (m.call n).1 := by
  have h := with_do (m := m) (n := 0) (Nat.zero_le _) (doesDo n)
  have et : m.taken 0 = m := by unfold M.taken; rw [Nat.sub_zero, List.take_length]
  have e0 : m.top 0 = [] := by unfold M.top; rw [Nat.sub_zero, List.drop_length]
  rw [et, e0] at h
  refine h.trans ?_
  unfold doesDo
  dsimp only
  by_cases hq : (m.call n).1 = 0
  · rw [if_pos hq, if_pos hq, if_pos hq]
  · rw [if_neg hq, if_neg hq, if_neg hq]
    split <;> simp
theorem push_err {m : M} {x : Int} (h : (m.push x).1 ≠ 0) : (m.push x).2 = m := by
  unfold M.push pushS at h ⊢
  by_cases hl : m.S.st.length < 128
  · rw [if_pos hl] at h; exact absurd rfl h
  · rw [if_neg hl]
theorem push_ne {m : M} {x : Int} (h : (m.push x).1 = 0) : (m.push x).2.S.st ≠ [] := by
  unfold M.push pushS at h ⊢
  by_cases hl : m.S.st.length < 128
  · rw [if_pos hl]; simp
  · rw [if_neg hl] at h; exact absurd h (by show ¬ ((-3 : Int) = 0); decide)
set_option maxRecDepth 100000 in
set_option maxHeartbeats 3200000 in
theorem exec_does_sem {w : World} {g : Nat} {p : Lay} {F : List Nat} {m : M} (h : EngAt w g p F m) (hf : Fine m) (xt n v : Int) (hw : m.word xt = some (7, n, v)) : Calls Tryz.prog 45 #[.pointer (some ⟨g, 0, none⟩), .int .i64 xt] w fun R w' => R = .returned (stV ((if (m.push v).1 ≠ 0 then m.throw (m.push v).1 else (m.push v).2.with_ 0 (doesDo n))).1) ∧ Keep w g p F ((if (m.push v).1 ≠ 0 then m.throw (m.push v).1 else (m.push v).2.with_ 0 (doesDo n))).2 w' := by
  obtain ⟨z, hz⟩ : ∃ z, w.heap.size = z := ⟨_, rfl⟩
  have HS := Lib.hid (Start.box1 w h)
  have hE0 := h.touch HS.out.1.t (by simp)
  rw [hz] at HS
  have hF := find_sem hE0 hf.words xt
  unfold FoundW at hF
  rw [hw] at hF
  have hFl := hE0.lt
  have b0 := HS.out.2.at_ (Touch.refl F _)
  have HA := Lib.hid (fun (W : World) F1 (hW : EngAt W g p F1 m) => push_sem hW hf.st v)
  by_cases h0 : (m.push v).1 = 0
  · rw [if_neg (by simpa using h0)]
    rw [h0] at HA
    have hne := push_ne h0
    have hpf := hf.push v
    obtain ⟨pm, hpm⟩ : ∃ q, (m.push v).2 = q := ⟨_, rfl⟩
    rw [hpm] at HA hne hpf ⊢
    have hdf : Fine (doesDo n (pm.top 0) (pm.taken 0)).2 := by
      have et : pm.taken 0 = pm := by unfold M.taken; rw [Nat.sub_zero, List.take_length]
      rw [et]
      unfold doesDo
      dsimp only
      split
      · exact hpf.call n
      · exact (hpf.call n).stk (drop_le _ (hpf.call n).st)
    have HW := Lib.hid (fun (W : World) F1 b bw (hW : EngAt W g p F1 pm) (hb : Cap W F1 b g) (hx : CapW W F1 bw 7 n v) => with_sem hW hpf 0 (by decide) 68 #[] #[.pointer (some ⟨b, 0, none⟩), .pointer (some ⟨bw, 0, none⟩)] (doesDo n) (enters_of Tryz.func68 (by kernel_rfl) rfl) (does_acts hb hx hpf.st hne) (fun _ => hdf) (fun _ _ => hdf.st))
    rw [show ((0 : Nat) : Int) = 0 from rfl] at HW
    obtain ⟨⟨⟨sa, sb, sc⟩, m'⟩, hq⟩ : ∃ q, pm.with_ 0 (doesDo n) = q := ⟨_, rfl⟩
    rw [hq] at HW ⊢
    clear hq hpm hne hdf hpf h0 h hf hw
    go_enter Tryz.func45, Tryz.ntmps45
    go_upto_region 1 with fail
    clear hz
    generalize (w.alloc (.cells #[.pointer (some ⟨g, 0, none⟩)] 27)).alloc (.cells #[.int .i64 0, .int .i64 0, .int .i64 0] 48) = W0 at *
    go_wp2_with fail
    refine hF.mono ?_
    rintro _ _ ⟨_, rfl, rfl, b, i, rfl, hbF, hi0, k0, k1, k2⟩
    clear hi0
    have tY := (Touch.refl [] W0).alloc (.cells #[.int .i64 7, .int .i64 n, .int .i64 v] 35)
    have bY := Blk.new W0 35 #[.int .i64 7, .int .i64 n, .int .i64 v]
    have hE1 := hE0.touch tY (by simp)
    have HB := Lib.hid (show Cap (W0.alloc (.cells #[.int .i64 7, .int .i64 n, .int .i64 v] 35)) F z g from ⟨HS.out.2.blk.alloc _, HS.out.2.off⟩)
    obtain ⟨y, hy⟩ : ∃ y, W0.heap.size = y := ⟨_, rfl⟩
    have hyF : y ∉ F := fun hx => by have := hFl y hx; omega
    rw [hy] at bY
    have HC := Lib.hid (show CapW (W0.alloc (.cells #[.int .i64 7, .int .i64 n, .int .i64 v] 35)) F y 7 n v from ⟨bY, hyF⟩)
    clear hF hE0 hyF hFl hbF
    go_upto_region 5 with fail
    clear hy
    generalize W0.alloc (.cells #[.int .i64 7, .int .i64 n, .int .i64 v] 35) = W1 at *
    have y0 := bY.cell 0
    have y1 := bY.cell 1
    have y2 := bY.cell 2
    have b1 := HB.out.at_ (Touch.refl F _)
    have HT := Lib.hid tY
    clear tY bY k0 k1 k2 b0 
    have hA := HA.out _ _ hE1
    have hlt := hE1.lt
    clear hE1
    go_wp2_with fail
    refine hA.mono ?_
    rintro _ w2 ⟨rfl, k2⟩
    obtain ⟨F2, h2, t2, s2⟩ := k2
    have hb2 : Cap w2 F2 z g := ⟨HB.out.blk.touch t2 HB.out.off, fun hx => (s2 z hx).elim HB.out.off (fun hh => by have := HB.out.blk.lt; omega)⟩
    have hx2 : CapW w2 F2 y 7 n v := ⟨HC.out.blk.touch t2 HC.out.off, fun hx => (s2 y hx).elim HC.out.off (fun hh => by have := HC.out.blk.lt; omega)⟩
    have hW := HW.out w2 F2 z y h2 hb2 hx2
    have b2 := hb2.at_ (Touch.refl F2 _)
    have HN := Lib.hid (fun (m3 : M) (W3 : World) (k : Keep w2 g p F2 m3 W3) => (Keep.trans t2 s2 k).pre HT.out)
    have hmf : ∀ (fn : Fn) (first cap : Array Value) (w : World), (Instr.makeFunc fn first cap).run Tryz.prog w = .ok (.func fn first cap) w := fun _ _ _ _ => rfl
    clear hA h2 t2 s2 hb2 hx2 hlt y0 y1 y2 b1
    go_wp2_with fail
    refine hW.mono ?_
    rintro _ w3 ⟨rfl, k3⟩
    have k3 := HN.out _ _ k3
    have hb := HS.out.1.blk k3
    obtain ⟨⟨e0, e1, e2⟩, g0, g1, g2⟩ := zeros_of hb
    obtain ⟨r0, r1, r2⟩ := three_read hb (.int .i64 sa) (.int .i64 sb) (.int .i64 sc)
    have HK := Lib.hid (HS.out.1.end_ k3 (.int .i64 sa) (.int .i64 sb) (.int .i64 sc))
    clear k3 hb hW b2 hmf
    go_wp2_with fail
    refine bodyPost_ret (by simp [results, Tryz.results45, go_sem, r0, r1, r2]; try rfl) rfl ?_
    exact ⟨rfl, HK.out⟩
  · rw [if_pos h0]
    have he := push_err h0
    rw [he] at HA
    obtain ⟨pe, hpe⟩ : ∃ q, (m.push v).1 = q := ⟨_, rfl⟩
    rw [hpe] at HA h0 ⊢
    have h0' : (pe == 0) = false := by simpa using h0
    have HT2 := Lib.hid (fun (W : World) F1 (hW : EngAt W g p F1 m) => throw_sem hW hf (pe))
    obtain ⟨⟨⟨sa, sb, sc⟩, m'⟩, hq⟩ : ∃ q, m.throw (pe) = q := ⟨_, rfl⟩
    rw [hq] at HT2 ⊢
    clear hq he hpe h0 h hf hw
    go_enter Tryz.func45, Tryz.ntmps45
    go_upto_region 1 with fail
    clear hz
    generalize (w.alloc (.cells #[.pointer (some ⟨g, 0, none⟩)] 27)).alloc (.cells #[.int .i64 0, .int .i64 0, .int .i64 0] 48) = W0 at *
    go_wp2_with fail
    refine hF.mono ?_
    rintro _ _ ⟨_, rfl, rfl, b, i, rfl, hbF, hi0, k0, k1, k2⟩
    clear hi0
    have tY := (Touch.refl [] W0).alloc (.cells #[.int .i64 7, .int .i64 n, .int .i64 v] 35)
    have bY := Blk.new W0 35 #[.int .i64 7, .int .i64 n, .int .i64 v]
    have hE1 := hE0.touch tY (by simp)
    have HB := Lib.hid (show Cap (W0.alloc (.cells #[.int .i64 7, .int .i64 n, .int .i64 v] 35)) F z g from ⟨HS.out.2.blk.alloc _, HS.out.2.off⟩)
    obtain ⟨y, hy⟩ : ∃ y, W0.heap.size = y := ⟨_, rfl⟩
    have hyF : y ∉ F := fun hx => by have := hFl y hx; omega
    rw [hy] at bY
    have HC := Lib.hid (show CapW (W0.alloc (.cells #[.int .i64 7, .int .i64 n, .int .i64 v] 35)) F y 7 n v from ⟨bY, hyF⟩)
    clear hF hE0 hyF hFl hbF
    go_upto_region 5 with fail
    clear hy
    generalize W0.alloc (.cells #[.int .i64 7, .int .i64 n, .int .i64 v] 35) = W1 at *
    have y0 := bY.cell 0
    have y1 := bY.cell 1
    have y2 := bY.cell 2
    have b1 := HB.out.at_ (Touch.refl F _)
    have HT := Lib.hid tY
    clear tY bY k0 k1 k2 b0 
    have hA := HA.out _ _ hE1
    clear hE1
    go_wp2_with fail
    refine hA.mono ?_
    rintro _ w2 ⟨rfl, k2⟩
    have b2 : w2.cell? ⟨z, 0, none⟩ = some (.pointer (some ⟨g, 0, none⟩)) := by obtain ⟨_, _, t5, _⟩ := k2; exact HB.out.at_ t5
    obtain ⟨F2, h2, n2⟩ := k2.open
    have hT := HT2.out _ _ h2
    clear hA k2 h2 y0 y1 y2 b1
    go_wp2_with fail
    refine hT.mono ?_
    rintro _ w3 ⟨rfl, k3⟩
    have k3 := (n2.out _ _ k3).pre HT.out
    have hb := HS.out.1.blk k3
    obtain ⟨⟨e0, e1, e2⟩, g0, g1, g2⟩ := zeros_of hb
    obtain ⟨r0, r1, r2⟩ := three_read hb (.int .i64 sa) (.int .i64 sb) (.int .i64 sc)
    have HK := Lib.hid (HS.out.1.end_ k3 (.int .i64 sa) (.int .i64 sb) (.int .i64 sc))
    clear k3 hb hT b2
    go_wp2_with fail
    refine bodyPost_ret (by simp [results, Tryz.results45, go_sem, r0, r1, r2]; try rfl) rfl ?_
    exact ⟨rfl, HK.out⟩
end En
end Go.Proofs.YtdokeddjcpnmiaaGreatDoor
