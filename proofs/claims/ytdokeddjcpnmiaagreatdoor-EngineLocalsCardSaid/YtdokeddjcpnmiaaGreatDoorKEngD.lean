import Derived.Test.YtdokeddjcpnmiaaGreatDoorKEngC
/- The engine's fromR, returns, deferred (printed by wip/engfn.py). -/
namespace Go.Proofs.YtdokeddjcpnmiaaGreatDoor
open Go.RowKit
namespace En

set_option maxRecDepth 100000 in
set_option maxHeartbeats 1600000 in
theorem fromR_sem {w : World} {g : Nat} {p : Lay} {F : List Nat} {m : M} (h : EngAt w g p F m) (hf : Fine m) : Calls Tryz.prog 100 #[.pointer (some ⟨g, 0, none⟩)] w fun R w' => R = .returned (stV (m.control 2).1) ∧ Keep w g p F (m.control 2).2 w' := by
  obtain ⟨z, hz⟩ : ∃ z, w.heap.size = z := ⟨_, rfl⟩
  have HS := Lib.hid (Start.box0 w h)
  have hE0 := h.touch HS.out.1.t (by simp)
  rw [hz] at HS
  have c3 := hE0.c3
  by_cases hk : m.fr ≠ [] ∧ (topF m.fr).k = 2
  · obtain ⟨Q, f, hQ⟩ := snoc_of hk.1
    have hf2 : f.k = 2 := by have := hk.2; rwa [hQ, topF_snoc] at this
    have hP := pop_yes hE0 hf.fr f Q hQ 2 hf2 (by decide)
    have hfr := hf.fr
    have hQl : Q.length ≤ 127 := by have := congrArg List.length hQ; simp at this; omega
    have hf1 : Fine { m with fr := Q } := hf.frs (by omega)
    have hp : m.pop 2 = some (f, { m with fr := Q }) := by unfold M.pop; rw [if_pos hk, hQ, topF_snoc, List.dropLast_concat]
    have hl : f.l = [] := by
      obtain ⟨_, _, _, _, _, _, hh, _⟩ := h
      exact hh.fr.noLoc f (by rw [hQ]; simp) (by rw [hf2]; decide)
    obtain ⟨m1, hm1⟩ : ∃ m1 : M, m1 = { m with fr := Q } := ⟨_, rfl⟩
    rw [← hm1] at hP hf1 hp
    obtain ⟨⟨pe, pm⟩, hpu⟩ : ∃ q, m1.push f.x = q := ⟨_, rfl⟩
    have hpf : Fine pm := by have := hf1.push f.x; rw [hpu] at this; exact this
    have HP := Lib.hid (fun (W : World) F1 (hW : EngAt W g p F1 m1) => push_sem hW hf1.st f.x)
    rw [hpu] at HP
    unfold frA at hP
    by_cases h0 : pe = 0
    · subst h0
      have e1 : m.control 2 = M.done (0, pm) := by
        show (match m.pop 2 with | some (f, m') => (let r := m'.push f.x; if r.1 = 0 then M.done r else M.done (r.1, (r.2.pushFr f).2)) | none => m.throw (-6)) = _
        rw [hp]
        dsimp only
        rw [hpu]
        exact if_pos rfl
      rw [e1]
      have HD := Lib.hid (fun (W : World) F1 (hW : EngAt W g p F1 pm) => done_sem hW hpf 0)
      obtain ⟨⟨⟨sa, sb, sc⟩, m'⟩, hq⟩ : ∃ q, M.done (0, pm) = q := ⟨_, rfl⟩
      rw [hq] at HD ⊢
      clear hq e1 hp hpu hpf hE0 h hf hk hQ hf2 hfr hQl hf1 hl hm1
      go_enter Tryz.func100, Tryz.ntmps100
      go_upto_region 1 with fail
      clear hz
      generalize w.alloc (.cells #[.int .i64 0, .int .i64 0, .int .i64 0] 48) = W0 at *
      go_wp2_with fail
      refine hP.mono ?_
      rintro _ w1 ⟨rfl, k1⟩
      have tY := (Touch.refl [] w1).alloc (.cells #[.int .i64 f.k, .int .i64 f.a, .int .i64 f.b, .int .i64 f.x, .int .i64 f.y, .slice none 0 0] 45)
      have bY := Blk.new w1 45 #[.int .i64 f.k, .int .i64 f.a, .int .i64 f.b, .int .i64 f.x, .int .i64 f.y, .slice none 0 0]
      obtain ⟨y, hy⟩ : ∃ y, w1.heap.size = y := ⟨_, rfl⟩
      rw [hy] at bY
      obtain ⟨F1, h1, n1⟩ := k1.open
      have hyF : y ∉ F1 := fun hx => by have := h1.lt y hx; omega
      have h2 := h1.touch tY (by simp)
      have HN := Lib.hid (fun (m2 : M) (W2 : World) (k : Keep (w1.alloc (.cells #[.int .i64 f.k, .int .i64 f.a, .int .i64 f.b, .int .i64 f.x, .int .i64 f.y, .slice none 0 0] 45)) g p F1 m2 W2) => n1.out _ _ (k.pre tY))
      clear hP k1 h1 n1 tY
      go_upto_region 2 with fail
      clear hy
      generalize w1.alloc (.cells #[.int .i64 f.k, .int .i64 f.a, .int .i64 f.b, .int .i64 f.x, .int .i64 f.y, .slice none 0 0] 45) = w2 at *
      have y3 := bY.cell 3
      have hP := HP.out _ _ h2
      clear h2 c3
      go_wp2_with fail
      refine hP.mono ?_
      rintro _ w3 ⟨rfl, k3⟩
      have k3 := HN.out _ _ k3
      obtain ⟨F3, h3, n3⟩ := k3.open
      have hD := HD.out _ _ h3
      clear hP k3 h3 HN y3 bY
      go_wp2_with fail
      refine hD.mono ?_
      rintro _ w4 ⟨rfl, k4⟩
      have k4 := n3.out _ _ k4
      have hb := HS.out.1.blk k4
      obtain ⟨⟨e0, e1, e2⟩, g0, g1, g2⟩ := zeros_of hb
      obtain ⟨r0, r1, r2⟩ := three_read hb (.int .i64 sa) (.int .i64 sb) (.int .i64 sc)
      have HK := Lib.hid (HS.out.1.end_ k4 (.int .i64 sa) (.int .i64 sb) (.int .i64 sc))
      clear k4 hb hD
      go_wp2_with fail
      refine bodyPost_ret (by simp [results, Tryz.results100, go_sem, r0, r1, r2]; try rfl) rfl ?_
      exact ⟨rfl, HK.out⟩
    · have hps : pe ≠ 0 ∧ pm = m1 := by
        have e := hpu
        unfold M.push pushS at e
        by_cases hlt : m1.S.st.length < 128
        · rw [if_pos hlt] at e; injection e with e1 _; exact absurd e1.symm h0
        · rw [if_neg hlt] at e; injection e with _ e2; exact ⟨h0, e2.symm⟩
      have hpush : pm.pushFr f = (0, { pm with fr := pm.fr ++ [f] }) := by
        unfold M.pushFr
        rw [if_pos (by rw [hps.2, hm1]; show Q.length < 128; omega)]
      have e1 : m.control 2 = M.done (pe, (pm.pushFr f).2) := by
        show (match m.pop 2 with | some (f, m') => (let r := m'.push f.x; if r.1 = 0 then M.done r else M.done (r.1, (r.2.pushFr f).2)) | none => m.throw (-6)) = _
        rw [hp]
        dsimp only
        rw [hpu]
        exact if_neg h0
      rw [e1]
      have h0' : (pe == 0) = false := by simpa using h0
      have HF := Lib.hid (fun (W W2 : World) F1 (hW : EngAt W g p F1 pm) (t : Touch [] W W2) => pushFr_eng hW f hl W2 t)
      unfold frA at HF
      have hpf := hpf.pushFr f
      obtain ⟨⟨fe, fm⟩, hfm⟩ : ∃ q, pm.pushFr f = q := ⟨_, rfl⟩
      rw [hfm] at HF hpf ⊢
      dsimp only at HF hpf ⊢
      have HD := Lib.hid (fun (W : World) F1 (hW : EngAt W g p F1 fm) => done_sem hW hpf pe)
      obtain ⟨⟨⟨sa, sb, sc⟩, m'⟩, hq⟩ : ∃ q, M.done (pe, fm) = q := ⟨_, rfl⟩
      rw [hq] at HD ⊢
      clear hq e1 hp hpu hpf hE0 h hf hk hQ hf2 hfr hQl hf1 hl hm1 hps hpush hfm h0
      go_enter Tryz.func100, Tryz.ntmps100
      go_upto_region 1 with fail
      clear hz
      generalize w.alloc (.cells #[.int .i64 0, .int .i64 0, .int .i64 0] 48) = W0 at *
      go_wp2_with fail
      refine hP.mono ?_
      rintro _ w1 ⟨rfl, k1⟩
      have tY := (Touch.refl [] w1).alloc (.cells #[.int .i64 f.k, .int .i64 f.a, .int .i64 f.b, .int .i64 f.x, .int .i64 f.y, .slice none 0 0] 45)
      have bY := Blk.new w1 45 #[.int .i64 f.k, .int .i64 f.a, .int .i64 f.b, .int .i64 f.x, .int .i64 f.y, .slice none 0 0]
      obtain ⟨y, hy⟩ : ∃ y, w1.heap.size = y := ⟨_, rfl⟩
      rw [hy] at bY
      obtain ⟨F1, h1, n1⟩ := k1.open
      have hyF : y ∉ F1 := fun hx => by have := h1.lt y hx; omega
      have h2 := h1.touch tY (by simp)
      have HN := Lib.hid (fun (m2 : M) (W2 : World) (k : Keep (w1.alloc (.cells #[.int .i64 f.k, .int .i64 f.a, .int .i64 f.b, .int .i64 f.x, .int .i64 f.y, .slice none 0 0] 45)) g p F1 m2 W2) => n1.out _ _ (k.pre tY))
      clear hP k1 h1 n1 tY
      go_upto_region 2 with fail
      clear hy
      generalize w1.alloc (.cells #[.int .i64 f.k, .int .i64 f.a, .int .i64 f.b, .int .i64 f.x, .int .i64 f.y, .slice none 0 0] 45) = w2 at *
      have y3 := bY.cell 3
      have hP := HP.out _ _ h2
      clear h2 c3
      go_wp2_with fail
      refine hP.mono ?_
      rintro _ w3 ⟨rfl, k3⟩
      have y0 := (k3.blk bY hyF).cell 0
      have y1 := (k3.blk bY hyF).cell 1
      have y2 := (k3.blk bY hyF).cell 2
      have y3 := (k3.blk bY hyF).cell 3
      have y4 := (k3.blk bY hyF).cell 4
      have y5 := (k3.blk bY hyF).cell 5
      obtain ⟨F3, h3, n3⟩ := k3.open
      have hF := HF.out w3 w3.drew F3 h3 (Touch.refl [] w3).drew
      have c3 := h3.c3
      clear hP h3 k3
      go_upto_region 6 with fail
      go_still_tail 5, (by kernel_rfl)
      change wpList _ _ _ _ _ w3.drew
      go_wp2_with fail
      refine hF.mono ?_
      rintro _ w4 ⟨rfl, k4⟩
      have k4 := HN.out _ _ (n3.out _ _ k4)
      obtain ⟨F4, h4, n4⟩ := k4.open
      have hD := HD.out _ _ h4
      clear hF k4 h4 HN y0 y1 y2 y3 y4 y5 bY c3 n3
      go_wp2_with fail
      refine hD.mono ?_
      rintro _ w5 ⟨rfl, k5⟩
      have k5 := n4.out _ _ k5
      have hb := HS.out.1.blk k5
      obtain ⟨⟨e0, e1, e2⟩, g0, g1, g2⟩ := zeros_of hb
      obtain ⟨r0, r1, r2⟩ := three_read hb (.int .i64 sa) (.int .i64 sb) (.int .i64 sc)
      have HK := Lib.hid (HS.out.1.end_ k5 (.int .i64 sa) (.int .i64 sb) (.int .i64 sc))
      clear k5 hb hD
      go_wp2_with fail
      refine bodyPost_ret (by simp [results, Tryz.results100, go_sem, r0, r1, r2]; try rfl) rfl ?_
      exact ⟨rfl, HK.out⟩
  · have e1 : m.control 2 = m.throw (-6) := by
      show (match m.pop 2 with | some (f, m') => (let r := m'.push f.x; if r.1 = 0 then M.done r else M.done (r.1, (r.2.pushFr f).2)) | none => m.throw (-6)) = _
      rw [show m.pop 2 = none from if_neg hk]
    rw [e1]
    have hP := pop_no hE0 hf.fr 2 (by by_cases h0 : m.fr = []; exact .inl h0; exact .inr fun h3 => hk ⟨h0, h3⟩)
    unfold frA Fr.none at hP
    have HT := Lib.hid (fun (W : World) F1 (hW : EngAt W g p F1 m) => throw_sem hW hf (-6))
    obtain ⟨⟨⟨sa, sb, sc⟩, m'⟩, hq⟩ : ∃ q, m.throw (-6) = q := ⟨_, rfl⟩
    rw [hq] at HT ⊢
    clear hq e1 hE0 h hf hk
    go_enter Tryz.func100, Tryz.ntmps100
    go_upto_region 1 with fail
    clear hz
    generalize w.alloc (.cells #[.int .i64 0, .int .i64 0, .int .i64 0] 48) = W0 at *
    go_wp2_with fail
    refine hP.mono ?_
    rintro _ w1 ⟨rfl, k1⟩
    have tY := (Touch.refl [] w1).alloc (.cells #[.int .i64 0, .int .i64 0, .int .i64 0, .int .i64 0, .int .i64 0, .slice none 0 0] 45)
    have bY := Blk.new w1 45 #[.int .i64 0, .int .i64 0, .int .i64 0, .int .i64 0, .int .i64 0, .slice none 0 0]
    obtain ⟨y, hy⟩ : ∃ y, w1.heap.size = y := ⟨_, rfl⟩
    rw [hy] at bY
    obtain ⟨F1, h1, n1⟩ := k1.open
    have hyF : y ∉ F1 := fun hx => by have := h1.lt y hx; omega
    have h2 := h1.touch tY (by simp)
    have HN := Lib.hid (fun (m2 : M) (W2 : World) (k : Keep (w1.alloc (.cells #[.int .i64 0, .int .i64 0, .int .i64 0, .int .i64 0, .int .i64 0, .slice none 0 0] 45)) g p F1 m2 W2) => n1.out _ _ (k.pre tY))
    clear hP k1 h1 n1 tY
    go_upto_region 2 with fail
    clear hy
    generalize w1.alloc (.cells #[.int .i64 0, .int .i64 0, .int .i64 0, .int .i64 0, .int .i64 0, .slice none 0 0] 45) = w2 at *
    have hT := HT.out _ _ h2
    clear h2 c3 bY
    go_wp2_with fail
    refine hT.mono ?_
    rintro _ w3 ⟨rfl, k3⟩
    have k3 := HN.out _ _ k3
    have hb := HS.out.1.blk k3
    obtain ⟨⟨e0, e1, e2⟩, g0, g1, g2⟩ := zeros_of hb
    obtain ⟨r0, r1, r2⟩ := three_read hb (.int .i64 sa) (.int .i64 sb) (.int .i64 sc)
    have HK := Lib.hid (HS.out.1.end_ k3 (.int .i64 sa) (.int .i64 sb) (.int .i64 sc))
    clear k3 hb hT HN
    go_wp2_with fail
    refine bodyPost_ret (by simp [results, Tryz.results100, go_sem, r0, r1, r2]; try rfl) rfl ?_
    exact ⟨rfl, HK.out⟩
end En
end Go.Proofs.YtdokeddjcpnmiaaGreatDoor

/- The engine's returns, deferred (printed by wip/engfn.py). -/
namespace Go.Proofs.YtdokeddjcpnmiaaGreatDoor
open Go.RowKit
namespace En

set_option maxRecDepth 100000 in
set_option maxHeartbeats 1600000 in
theorem returns_sem {w : World} {g : Nat} {p : Lay} {F : List Nat} {m : M} (h : EngAt w g p F m) (hf : Fine m) : Calls Tryz.prog 46 #[.pointer (some ⟨g, 0, none⟩)] w fun R w' => R = .returned (stV (m.returns).1) ∧ Keep w g p F (m.returns).2 w' := by
  obtain ⟨z, hz⟩ : ∃ z, w.heap.size = z := ⟨_, rfl⟩
  have HS := Lib.hid (Start.box0 w h)
  have hE0 := h.touch HS.out.1.t (by simp)
  rw [hz] at HS
  have c3 := hE0.c3
  have hTp := top_keep hE0 hf.fr
  by_cases h0 : m.fr = []
  · have e1 : m.returns = ((5, 0, 0), m) := if_pos h0
    rw [e1]
    have e2 : decide (m.fr ≠ []) = false := by simp [h0]
    rw [e2] at hTp
    obtain ⟨f, hft⟩ : ∃ f, topF m.fr = f := ⟨_, rfl⟩
    rw [hft] at hTp
    clear hft e1 e2 hE0 h hf h0
    go_enter Tryz.func46, Tryz.ntmps46
    go_upto_region 1 with fail
    clear hz
    generalize w.alloc (.cells #[.int .i64 0, .int .i64 0, .int .i64 0] 48) = W0 at *
    go_wp2_with fail
    refine hTp.mono ?_
    rintro _ w1 ⟨ta, tn, tc, rfl, k1⟩
    have tY := (Touch.refl [] w1).alloc (.cells #[.int .i64 f.k, .int .i64 f.a, .int .i64 f.b, .int .i64 f.x, .int .i64 f.y, .slice ta tn tc] 45)
    have bY := Blk.new w1 45 #[.int .i64 f.k, .int .i64 f.a, .int .i64 f.b, .int .i64 f.x, .int .i64 f.y, .slice ta tn tc]
    obtain ⟨y, hy⟩ : ∃ y, w1.heap.size = y := ⟨_, rfl⟩
    rw [hy] at bY
    obtain ⟨F1, h1, n1⟩ := k1.open
    have hyF : y ∉ F1 := fun hx => by have := h1.lt y hx; omega
    have h2 := h1.touch tY (by simp)
    have HN := Lib.hid (fun (m2 : M) (W2 : World) (k : Keep (w1.alloc (.cells #[.int .i64 f.k, .int .i64 f.a, .int .i64 f.b, .int .i64 f.x, .int .i64 f.y, .slice ta tn tc] 45)) g p F1 m2 W2) => n1.out _ _ (k.pre tY))
    clear hTp k1 h1 n1 tY c3
    go_upto_region 2 with fail
    clear hy
    generalize w1.alloc (.cells #[.int .i64 f.k, .int .i64 f.a, .int .i64 f.b, .int .i64 f.x, .int .i64 f.y, .slice ta tn tc] 45) = w2 at *
    have k3 := HN.out _ _ (Keep.refl h2)
    have hb := HS.out.1.blk k3
    obtain ⟨⟨e0, e1, e2⟩, g0, g1, g2⟩ := zeros_of hb
    obtain ⟨r0, r1, r2⟩ := three_read hb (.int .i64 5) (.int .i64 0) (.int .i64 0)
    have HK := Lib.hid (HS.out.1.end_ k3 (.int .i64 5) (.int .i64 0) (.int .i64 0))
    clear k3 hb h2 HN bY
    go_wp2_with fail
    refine bodyPost_ret (by simp [results, Tryz.results46, go_sem, r0, r1, r2]; try rfl) rfl ?_
    exact ⟨rfl, HK.out⟩
  · obtain ⟨Q, f, hQ⟩ := snoc_of h0
    have e2 : decide (m.fr ≠ []) = true := by simp [h0]
    have ef : topF m.fr = f := by rw [hQ, topF_snoc]
    have ed : m.fr.dropLast = Q := by rw [hQ, List.dropLast_concat]
    rw [e2, ef] at hTp
    have hfr := hf.fr
    have hQl : Q.length ≤ 127 := by have := congrArg List.length hQ; simp at this; omega
    by_cases h1 : f.k = 1
    · have e1 : m.returns = M.done (0, ({ m with fr := Q } : M).place f.a f.b) := by
        unfold M.returns
        rw [if_neg h0, ef, if_pos h1, ed]
        rfl
      rw [e1]
      have hpf : Fine (({ m with fr := Q } : M).place f.a f.b) := (hf.frs (by omega)).at_ f.a f.b _
      have HP := Lib.hid (fun (W : World) F1 (hW : EngAt W g p F1 m) => pop_yes hW hfr f Q hQ 1 h1 (by decide))
      have HPl := Lib.hid (fun (W : World) F1 (hW : EngAt W g p F1 { m with fr := Q }) => place_sem hW f.a f.b)
      obtain ⟨pm, hpm⟩ : ∃ pm, (({ m with fr := Q } : M).place f.a f.b) = pm := ⟨_, rfl⟩
      rw [hpm] at hpf HPl ⊢
      unfold frA at HP
      have HD := Lib.hid (fun (W : World) F1 (hW : EngAt W g p F1 pm) => done_sem hW hpf 0)
      obtain ⟨⟨⟨sa, sb, sc⟩, m'⟩, hq⟩ : ∃ q, M.done (0, pm) = q := ⟨_, rfl⟩
      rw [hq] at HD ⊢
      clear hq e1 hpf hE0 h hf h0 hQ e2 ef ed hfr hQl hpm
      have kk1 : (f.k == 1) = true := by simpa using h1
      clear h1
      go_enter Tryz.func46, Tryz.ntmps46
      go_upto_region 1 with fail
      clear hz
      generalize w.alloc (.cells #[.int .i64 0, .int .i64 0, .int .i64 0] 48) = W0 at *
      go_wp2_with fail
      refine hTp.mono ?_
      rintro _ w1 ⟨ta, tn, tc, rfl, k1⟩
      have tY := (Touch.refl [] w1).alloc (.cells #[.int .i64 f.k, .int .i64 f.a, .int .i64 f.b, .int .i64 f.x, .int .i64 f.y, .slice ta tn tc] 45)
      have bY := Blk.new w1 45 #[.int .i64 f.k, .int .i64 f.a, .int .i64 f.b, .int .i64 f.x, .int .i64 f.y, .slice ta tn tc]
      obtain ⟨y, hy⟩ : ∃ y, w1.heap.size = y := ⟨_, rfl⟩
      rw [hy] at bY
      obtain ⟨F1, h1, n1⟩ := k1.open
      have hyF : y ∉ F1 := fun hx => by have := h1.lt y hx; omega
      have h2 := h1.touch tY (by simp)
      have HN := Lib.hid (fun (m2 : M) (W2 : World) (k : Keep (w1.alloc (.cells #[.int .i64 f.k, .int .i64 f.a, .int .i64 f.b, .int .i64 f.x, .int .i64 f.y, .slice ta tn tc] 45)) g p F1 m2 W2) => n1.out _ _ (k.pre tY))
      clear hTp k1 h1 n1 tY c3
      go_upto_region 2 with fail
      clear hy
      generalize w1.alloc (.cells #[.int .i64 f.k, .int .i64 f.a, .int .i64 f.b, .int .i64 f.x, .int .i64 f.y, .slice ta tn tc] 45) = w2 at *
      have y0 := bY.cell 0
      have y1 := bY.cell 1
      have y2 := bY.cell 2
      have hP := HP.out _ _ h2
      have c3 := h2.c3
      clear h2
      go_wp2_with fail
      refine hP.mono ?_
      rintro _ w3 ⟨rfl, k3⟩
      have y1 := (k3.blk bY hyF).cell 1
      have y2 := (k3.blk bY hyF).cell 2
      obtain ⟨F3, h3, n3⟩ := k3.open
      have hPl := HPl.out _ _ h3
      clear hP k3 h3 c3 y0
      go_wp2_with fail
      refine hPl.mono ?_
      rintro _ w4 ⟨rfl, k4⟩
      have k4 := HN.out _ _ (n3.out _ _ k4)
      obtain ⟨F4, h4, n4⟩ := k4.open
      have hD := HD.out _ _ h4
      clear hPl k4 h4 HN n3 y1 y2 bY
      go_wp2_with fail
      refine hD.mono ?_
      rintro _ w5 ⟨rfl, k5⟩
      have k5 := n4.out _ _ k5
      have hb := HS.out.1.blk k5
      obtain ⟨⟨e0, e1, e2⟩, g0, g1, g2⟩ := zeros_of hb
      obtain ⟨r0, r1, r2⟩ := three_read hb (.int .i64 sa) (.int .i64 sb) (.int .i64 sc)
      have HK := Lib.hid (HS.out.1.end_ k5 (.int .i64 sa) (.int .i64 sb) (.int .i64 sc))
      clear k5 hb hD
      go_wp2_with fail
      refine bodyPost_ret (by simp [results, Tryz.results46, go_sem, r0, r1, r2]; try rfl) rfl ?_
      exact ⟨rfl, HK.out⟩
    by_cases h5 : f.k = 5
    · obtain ⟨⟨pe, pm⟩, hpu⟩ : ∃ q, m.push 0 = q := ⟨_, rfl⟩
      have hpf : Fine pm := by have := hf.push 0; rw [hpu] at this; exact this
      have HP := Lib.hid (fun (W : World) F1 (hW : EngAt W g p F1 m) => push_sem hW hf.st 0)
      rw [hpu] at HP
      have hfrm : pm.fr = m.fr := by have : (m.push 0).2.fr = m.fr := rfl; rw [hpu] at this; exact this
      have kk1 : (f.k == 1) = false := by simpa using h1
      have kk5 : (f.k == 5) = true := by simpa using h5
      by_cases hz0 : pe = 0
      · subst hz0
        have e1 : m.returns = M.done (0, { pm with fr := Q }) := by
          unfold M.returns
          rw [if_neg h0, ef, if_neg h1, if_pos h5]
          dsimp only
          rw [hpu, if_pos rfl, show pm.fr = m.fr from hfrm, ed]
          rfl
        rw [e1]
        have HPo := Lib.hid (fun (W : World) F1 (hW : EngAt W g p F1 pm) => pop_yes hW hpf.fr f Q (hfrm.trans hQ) 5 h5 (by decide))
        unfold frA at HPo
        have hpf : Fine { pm with fr := Q } := hpf.frs (by omega)
        obtain ⟨pm2, hpm2⟩ : ∃ pm2 : M, { pm with fr := Q } = pm2 := ⟨_, rfl⟩
        rw [hpm2] at hpf HPo ⊢
        have HD := Lib.hid (fun (W : World) F1 (hW : EngAt W g p F1 pm2) => done_sem hW hpf 0)
        obtain ⟨⟨⟨sa, sb, sc⟩, m'⟩, hq⟩ : ∃ q, M.done (0, pm2) = q := ⟨_, rfl⟩
        rw [hq] at HD ⊢
        clear hq e1 hpf hE0 h hf h0 hQ e2 ef ed hfr hQl hpm2 hfrm hpu h1 h5
        go_enter Tryz.func46, Tryz.ntmps46
        go_upto_region 1 with fail
        clear hz
        generalize w.alloc (.cells #[.int .i64 0, .int .i64 0, .int .i64 0] 48) = W0 at *
        go_wp2_with fail
        refine hTp.mono ?_
        rintro _ w1 ⟨ta, tn, tc, rfl, k1⟩
        have tY := (Touch.refl [] w1).alloc (.cells #[.int .i64 f.k, .int .i64 f.a, .int .i64 f.b, .int .i64 f.x, .int .i64 f.y, .slice ta tn tc] 45)
        have bY := Blk.new w1 45 #[.int .i64 f.k, .int .i64 f.a, .int .i64 f.b, .int .i64 f.x, .int .i64 f.y, .slice ta tn tc]
        obtain ⟨y, hy⟩ : ∃ y, w1.heap.size = y := ⟨_, rfl⟩
        rw [hy] at bY
        obtain ⟨F1, h1, n1⟩ := k1.open
        have hyF : y ∉ F1 := fun hx => by have := h1.lt y hx; omega
        have h2 := h1.touch tY (by simp)
        have HN := Lib.hid (fun (m2 : M) (W2 : World) (k : Keep (w1.alloc (.cells #[.int .i64 f.k, .int .i64 f.a, .int .i64 f.b, .int .i64 f.x, .int .i64 f.y, .slice ta tn tc] 45)) g p F1 m2 W2) => n1.out _ _ (k.pre tY))
        clear hTp k1 h1 n1 tY c3
        go_upto_region 2 with fail
        clear hy
        generalize w1.alloc (.cells #[.int .i64 f.k, .int .i64 f.a, .int .i64 f.b, .int .i64 f.x, .int .i64 f.y, .slice ta tn tc] 45) = w2 at *
        have y0 := bY.cell 0
        have hP := HP.out _ _ h2
        clear h2
        go_wp2_with fail
        refine hP.mono ?_
        rintro _ w3 ⟨rfl, k3⟩
        obtain ⟨F3, h3, n3⟩ := k3.open
        have c3 := h3.c3
        have hPo := HPo.out _ _ h3
        clear hP k3 h3 y0
        go_wp2_with fail
        refine hPo.mono ?_
        rintro _ w4 ⟨rfl, k4⟩
        have k4 := HN.out _ _ (n3.out _ _ k4)
        obtain ⟨F4, h4, n4⟩ := k4.open
        have hD := HD.out _ _ h4
        clear hPo k4 h4 HN n3 bY c3
        go_wp2_with fail
        refine hD.mono ?_
        rintro _ w5 ⟨rfl, k5⟩
        have k5 := n4.out _ _ k5
        have hb := HS.out.1.blk k5
        obtain ⟨⟨e0, e1, e2⟩, g0, g1, g2⟩ := zeros_of hb
        obtain ⟨r0, r1, r2⟩ := three_read hb (.int .i64 sa) (.int .i64 sb) (.int .i64 sc)
        have HK := Lib.hid (HS.out.1.end_ k5 (.int .i64 sa) (.int .i64 sb) (.int .i64 sc))
        clear k5 hb hD
        go_wp2_with fail
        refine bodyPost_ret (by simp [results, Tryz.results46, go_sem, r0, r1, r2]; try rfl) rfl ?_
        exact ⟨rfl, HK.out⟩
      · have e1 : m.returns = M.done (pe, pm) := by
          unfold M.returns
          rw [if_neg h0, ef, if_neg h1, if_pos h5]
          dsimp only
          rw [hpu, if_neg hz0]
        rw [e1]
        have hz0' : (pe == 0) = false := by simpa using hz0
        have HD := Lib.hid (fun (W : World) F1 (hW : EngAt W g p F1 pm) => done_sem hW hpf pe)
        obtain ⟨⟨⟨sa, sb, sc⟩, m'⟩, hq⟩ : ∃ q, M.done (pe, pm) = q := ⟨_, rfl⟩
        rw [hq] at HD ⊢
        clear hq e1 hpf hE0 h hf h0 hQ e2 ef ed hfr hQl hfrm hpu h1 h5 hz0
        go_enter Tryz.func46, Tryz.ntmps46
        go_upto_region 1 with fail
        clear hz
        generalize w.alloc (.cells #[.int .i64 0, .int .i64 0, .int .i64 0] 48) = W0 at *
        go_wp2_with fail
        refine hTp.mono ?_
        rintro _ w1 ⟨ta, tn, tc, rfl, k1⟩
        have tY := (Touch.refl [] w1).alloc (.cells #[.int .i64 f.k, .int .i64 f.a, .int .i64 f.b, .int .i64 f.x, .int .i64 f.y, .slice ta tn tc] 45)
        have bY := Blk.new w1 45 #[.int .i64 f.k, .int .i64 f.a, .int .i64 f.b, .int .i64 f.x, .int .i64 f.y, .slice ta tn tc]
        obtain ⟨y, hy⟩ : ∃ y, w1.heap.size = y := ⟨_, rfl⟩
        rw [hy] at bY
        obtain ⟨F1, h1, n1⟩ := k1.open
        have hyF : y ∉ F1 := fun hx => by have := h1.lt y hx; omega
        have h2 := h1.touch tY (by simp)
        have HN := Lib.hid (fun (m2 : M) (W2 : World) (k : Keep (w1.alloc (.cells #[.int .i64 f.k, .int .i64 f.a, .int .i64 f.b, .int .i64 f.x, .int .i64 f.y, .slice ta tn tc] 45)) g p F1 m2 W2) => n1.out _ _ (k.pre tY))
        clear hTp k1 h1 n1 tY c3
        go_upto_region 2 with fail
        clear hy
        generalize w1.alloc (.cells #[.int .i64 f.k, .int .i64 f.a, .int .i64 f.b, .int .i64 f.x, .int .i64 f.y, .slice ta tn tc] 45) = w2 at *
        have y0 := bY.cell 0
        have hP := HP.out _ _ h2
        clear h2
        go_wp2_with fail
        refine hP.mono ?_
        rintro _ w3 ⟨rfl, k3⟩
        have k3 := HN.out _ _ k3
        obtain ⟨F3, h3, n3⟩ := k3.open
        have hD := HD.out _ _ h3
        clear hP k3 h3 y0 HN bY
        go_wp2_with fail
        refine hD.mono ?_
        rintro _ w5 ⟨rfl, k5⟩
        have k5 := n3.out _ _ k5
        have hb := HS.out.1.blk k5
        obtain ⟨⟨e0, e1, e2⟩, g0, g1, g2⟩ := zeros_of hb
        obtain ⟨r0, r1, r2⟩ := three_read hb (.int .i64 sa) (.int .i64 sb) (.int .i64 sc)
        have HK := Lib.hid (HS.out.1.end_ k5 (.int .i64 sa) (.int .i64 sb) (.int .i64 sc))
        clear k5 hb hD
        go_wp2_with fail
        refine bodyPost_ret (by simp [results, Tryz.results46, go_sem, r0, r1, r2]; try rfl) rfl ?_
        exact ⟨rfl, HK.out⟩
    · have e1 : m.returns = m.throw (-25) := by
        unfold M.returns
        rw [if_neg h0, ef, if_neg h1, if_neg h5]
      rw [e1]
      have kk1 : (f.k == 1) = false := by simpa using h1
      have kk5 : (f.k == 5) = false := by simpa using h5
      have HT := Lib.hid (fun (W : World) F1 (hW : EngAt W g p F1 m) => throw_sem hW hf (-25))
      obtain ⟨⟨⟨sa, sb, sc⟩, m'⟩, hq⟩ : ∃ q, m.throw (-25) = q := ⟨_, rfl⟩
      rw [hq] at HT ⊢
      clear hq e1 hE0 h hf h0 hQ e2 ef ed hfr hQl h1 h5
      go_enter Tryz.func46, Tryz.ntmps46
      go_upto_region 1 with fail
      clear hz
      generalize w.alloc (.cells #[.int .i64 0, .int .i64 0, .int .i64 0] 48) = W0 at *
      go_wp2_with fail
      refine hTp.mono ?_
      rintro _ w1 ⟨ta, tn, tc, rfl, k1⟩
      have tY := (Touch.refl [] w1).alloc (.cells #[.int .i64 f.k, .int .i64 f.a, .int .i64 f.b, .int .i64 f.x, .int .i64 f.y, .slice ta tn tc] 45)
      have bY := Blk.new w1 45 #[.int .i64 f.k, .int .i64 f.a, .int .i64 f.b, .int .i64 f.x, .int .i64 f.y, .slice ta tn tc]
      obtain ⟨y, hy⟩ : ∃ y, w1.heap.size = y := ⟨_, rfl⟩
      rw [hy] at bY
      obtain ⟨F1, h1, n1⟩ := k1.open
      have hyF : y ∉ F1 := fun hx => by have := h1.lt y hx; omega
      have h2 := h1.touch tY (by simp)
      have HN := Lib.hid (fun (m2 : M) (W2 : World) (k : Keep (w1.alloc (.cells #[.int .i64 f.k, .int .i64 f.a, .int .i64 f.b, .int .i64 f.x, .int .i64 f.y, .slice ta tn tc] 45)) g p F1 m2 W2) => n1.out _ _ (k.pre tY))
      clear hTp k1 h1 n1 tY c3
      go_upto_region 2 with fail
      clear hy
      generalize w1.alloc (.cells #[.int .i64 f.k, .int .i64 f.a, .int .i64 f.b, .int .i64 f.x, .int .i64 f.y, .slice ta tn tc] 45) = w2 at *
      have y0 := bY.cell 0
      have hT := HT.out _ _ h2
      clear h2
      go_wp2_with fail
      refine hT.mono ?_
      rintro _ w3 ⟨rfl, k3⟩
      have k3 := HN.out _ _ k3
      have hb := HS.out.1.blk k3
      obtain ⟨⟨e0, e1, e2⟩, g0, g1, g2⟩ := zeros_of hb
      obtain ⟨r0, r1, r2⟩ := three_read hb (.int .i64 sa) (.int .i64 sb) (.int .i64 sc)
      have HK := Lib.hid (HS.out.1.end_ k3 (.int .i64 sa) (.int .i64 sb) (.int .i64 sc))
      clear k3 hb hT HN y0 bY
      go_wp2_with fail
      refine bodyPost_ret (by simp [results, Tryz.results46, go_sem, r0, r1, r2]; try rfl) rfl ?_
      exact ⟨rfl, HK.out⟩
set_option maxRecDepth 100000 in
set_option maxHeartbeats 1600000 in
theorem deferred_sem {w : World} {g : Nat} {p : Lay} {F : List Nat} {m : M} (h : EngAt w g p F m) (hf : Fine m) (xt : Int) : Calls Tryz.prog 70 #[.pointer (some ⟨g, 0, none⟩), .int .i64 xt] w fun R w' => R = .returned (stV (m.deferred xt).1) ∧ Keep w g p F (m.deferred xt).2 w' := by
  obtain ⟨z, hz⟩ : ∃ z, w.heap.size = z := ⟨_, rfl⟩
  have HS := Lib.hid (Start.box0 w h)
  have hE0 := h.touch HS.out.1.t (by simp)
  rw [hz] at HS
  by_cases h0 : xt = 0
  · rw [show m.deferred xt = m.throw (-32) from if_pos h0]
    subst h0
    have hT := throw_sem hE0 hf (-32)
    obtain ⟨⟨⟨sa, sb, sc⟩, m'⟩, hq⟩ : ∃ q, m.throw (-32) = q := ⟨_, rfl⟩
    rw [hq] at hT ⊢
    clear hq hE0 h hf
    go_enter Tryz.func70, Tryz.ntmps70
    go_upto_region 1 with fail
    clear hz
    generalize w.alloc (.cells #[.int .i64 0, .int .i64 0, .int .i64 0] 48) = W0 at *
    go_wp2_with fail
    refine hT.mono ?_
    rintro _ w1 ⟨rfl, k1⟩
    have hb := HS.out.1.blk k1
    obtain ⟨⟨e0, e1, e2⟩, g0, g1, g2⟩ := zeros_of hb
    obtain ⟨r0, r1, r2⟩ := three_read hb (.int .i64 sa) (.int .i64 sb) (.int .i64 sc)
    have HK := Lib.hid (HS.out.1.end_ k1 (.int .i64 sa) (.int .i64 sb) (.int .i64 sc))
    clear k1 hb hT
    go_wp2_with fail
    refine bodyPost_ret (by simp [results, Tryz.results70, go_sem, r0, r1, r2]; try rfl) rfl ?_
    exact ⟨rfl, HK.out⟩
  · have h0' : (xt == 0) = false := by simpa using h0
    have hF := find_sem hE0 hf.words xt
    cases hw : m.word xt with
    | none =>
      rw [show m.deferred xt = m.throw (-9) by unfold M.deferred; rw [if_neg h0, hw]]
      unfold FoundW at hF
      rw [hw] at hF
      have HT := Lib.hid (fun (W : World) F1 (hW : EngAt W g p F1 m) => throw_sem hW hf (-9))
      obtain ⟨⟨⟨sa, sb, sc⟩, m'⟩, hq⟩ : ∃ q, m.throw (-9) = q := ⟨_, rfl⟩
      rw [hq] at HT ⊢
      clear hq h hf h0 hw
      have HE := Lib.hid hE0
      clear hE0
      go_enter Tryz.func70, Tryz.ntmps70
      go_upto_region 1 with fail
      clear hz
      generalize w.alloc (.cells #[.int .i64 0, .int .i64 0, .int .i64 0] 48) = W0 at *
      go_wp2_with fail
      refine hF.mono ?_
      rintro _ _ ⟨_, rfl, rfl, rfl⟩
      have hT := HT.out _ _ HE.out
      clear hF
      go_wp2_with fail
      refine hT.mono ?_
      rintro _ w1 ⟨rfl, k1⟩
      have hb := HS.out.1.blk k1
      obtain ⟨⟨e0, e1, e2⟩, g0, g1, g2⟩ := zeros_of hb
      obtain ⟨r0, r1, r2⟩ := three_read hb (.int .i64 sa) (.int .i64 sb) (.int .i64 sc)
      have HK := Lib.hid (HS.out.1.end_ k1 (.int .i64 sa) (.int .i64 sb) (.int .i64 sc))
      clear k1 hb hT
      go_wp2_with fail
      refine bodyPost_ret (by simp [results, Tryz.results70, go_sem, r0, r1, r2]; try rfl) rfl ?_
      exact ⟨rfl, HK.out⟩
    | some u =>
      rw [show m.deferred xt = M.done (0, { m with nx := xt }) by unfold M.deferred; rw [if_neg h0, hw]; rfl]
      unfold FoundW at hF
      rw [hw] at hF
      have hpf : Fine { m with nx := xt } := hf.at_ _ _ xt
      obtain ⟨pm, hpm⟩ : ∃ pm : M, { m with nx := xt } = pm := ⟨_, rfl⟩
      have HS6 := Lib.hid (hE0.setNext xt)
      rw [hpm] at hpf HS6 ⊢
      have c6 := hE0.c6
      have f6 := hE0.z 6
      have HD := Lib.hid (fun (W : World) F1 (hW : EngAt W g p F1 pm) => done_sem hW hpf 0)
      obtain ⟨⟨⟨sa, sb, sc⟩, m'⟩, hq⟩ : ∃ q, M.done (0, pm) = q := ⟨_, rfl⟩
      rw [hq] at HD ⊢
      clear hq hpf hpm hE0 h hf h0 hw
      go_enter Tryz.func70, Tryz.ntmps70
      go_upto_region 1 with fail
      clear hz
      generalize w.alloc (.cells #[.int .i64 0, .int .i64 0, .int .i64 0] 48) = W0 at *
      go_wp2_with fail
      refine hF.mono ?_
      rintro _ _ ⟨_, rfl, rfl, b, i, rfl, _⟩
      have k1 := HS6.out
      clear hF
      go_upto_region 6 with fail
      generalize W0.setCell ⟨g, 6, none⟩ (.int .i64 xt) = w1 at *
      obtain ⟨F1, h1, n1⟩ := k1.open
      have hD := HD.out _ _ h1
      clear k1 h1 c6 f6
      go_wp2_with fail
      refine hD.mono ?_
      rintro _ w2 ⟨rfl, k2⟩
      have k2 := n1.out _ _ k2
      have hb := HS.out.1.blk k2
      obtain ⟨⟨e0, e1, e2⟩, g0, g1, g2⟩ := zeros_of hb
      obtain ⟨r0, r1, r2⟩ := three_read hb (.int .i64 sa) (.int .i64 sb) (.int .i64 sc)
      have HK := Lib.hid (HS.out.1.end_ k2 (.int .i64 sa) (.int .i64 sb) (.int .i64 sc))
      clear k2 hb hD HS6
      go_wp2_with fail
      refine bodyPost_ret (by simp [results, Tryz.results70, go_sem, r0, r1, r2]; try rfl) rfl ?_
      exact ⟨rfl, HK.out⟩
end En
end Go.Proofs.YtdokeddjcpnmiaaGreatDoor
