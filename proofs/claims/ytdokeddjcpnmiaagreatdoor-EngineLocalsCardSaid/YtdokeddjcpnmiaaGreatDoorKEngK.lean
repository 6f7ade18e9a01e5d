import Derived.Test.YtdokeddjcpnmiaaGreatDoorKEngG
import Derived.Deep.LoopGhost
/- Step at a definition (printed by wip/engfn.py). -/
namespace Go.Proofs.YtdokeddjcpnmiaaGreatDoor
open Go.RowKit
namespace En

set_option maxRecDepth 100000 in
set_option maxHeartbeats 3200000 in
theorem step_back_sem {w : World} {g : Nat} {p : Lay} {F : List Nat} {m : M} (h : EngAt w g p F m) (hf : Fine m) (hn : m.nx = 0) (h6 : (topF m.fr).k ≠ 6) (h7 : (topF m.fr).k ≠ 7) (hd : m.df = 0) : Calls Tryz.prog 27 #[.pointer (some ⟨g, 0, none⟩)] w fun R w' => R = .returned (stV m.returns.1) ∧ Keep w g p F m.returns.2 w' := by
  obtain ⟨z, hz⟩ : ∃ z, w.heap.size = z := ⟨_, rfl⟩
  have HS := Lib.hid (Start.box0 w h)
  have hE0 := h.touch HS.out.1.t (by simp)
  rw [hz] at HS
  have c6 := hE0.c6
  rw [hn] at c6
  have c3 := hE0.c3
  have hTp := top_keep hE0 hf.fr
  obtain ⟨f, ef⟩ : ∃ f, topF m.fr = f := ⟨_, rfl⟩
  rw [ef] at hTp h6 h7
  obtain ⟨ok, hok⟩ : ∃ ok, decide (m.fr ≠ []) = ok := ⟨_, rfl⟩
  rw [hok] at hTp
  have k6 : (f.k == 6) = false := by simpa using h6
  have k7 : (f.k == 7) = false := by simpa using h7
  clear hok ef h6 h7
  have HA := Lib.hid (fun (W : World) F1 (hW : EngAt W g p F1 m) => returns_sem hW hf)
  obtain ⟨⟨⟨sa, sb, sc⟩, m'⟩, hq⟩ : ∃ q, m.returns = q := ⟨_, rfl⟩
  rw [hq] at HA ⊢
  have HD0 := Lib.hid hd
  clear hq hE0 h hf hn hd
  go_enter Tryz.func27, Tryz.ntmps27
  go_upto_region 1 with fail
  clear hz
  generalize w.alloc (.cells #[.int .i64 0, .int .i64 0, .int .i64 0] 48) = W0 at *
  go_wp2_with fail
  refine hTp.mono ?_
  rintro _ w1 ⟨ta, tn, tc, rfl, k1⟩
  have tY := (Touch.refl [] w1).alloc (.cells #[.int .i64 f.k, .int .i64 f.a, .int .i64 f.b, .int .i64 f.x, .int .i64 f.y, .slice ta tn tc] 45)
  have bY := Blk.new w1 45 #[.int .i64 f.k, .int .i64 f.a, .int .i64 f.b, .int .i64 f.x, .int .i64 f.y, .slice ta tn tc]
  obtain ⟨y, hy⟩ : ∃ y, w1.heap.size = y := ⟨_, rfl⟩
  rw [hy] at bY
  obtain ⟨F1, h1, n1⟩ := k1.open
  have hyF : y ∉ F1 := fun hx => by have := h1.lt y hx; omega
  have h2 := h1.touch tY (by simp)
  have HN := Lib.hid (fun (m2 : M) (W2 : World) (k : Keep (w1.alloc (.cells #[.int .i64 f.k, .int .i64 f.a, .int .i64 f.b, .int .i64 f.x, .int .i64 f.y, .slice ta tn tc] 45)) g p F1 m2 W2) => n1.out _ _ (k.pre tY))
  clear hTp k1 h1 n1 tY c3 c6
  go_upto_region 8 with fail
  clear hy
  generalize w1.alloc (.cells #[.int .i64 f.k, .int .i64 f.a, .int .i64 f.b, .int .i64 f.x, .int .i64 f.y, .slice ta tn tc] 45) = w2 at *
  have y0 := bY.cell 0
  have y1 := bY.cell 1
  have y2 := bY.cell 2
  have y3 := bY.cell 3
  have c4 := h2.c4
  rw [HD0.out] at c4
  have hA := HA.out _ _ h2
  clear h2
  go_wp2_with fail
  refine hA.mono ?_
  rintro _ w3 ⟨rfl, k3⟩
  have k3 := HN.out _ _ k3
  have hb := HS.out.1.blk k3
  obtain ⟨⟨e0, e1, e2⟩, g0, g1, g2⟩ := zeros_of hb
  obtain ⟨r0, r1, r2⟩ := three_read hb (.int .i64 sa) (.int .i64 sb) (.int .i64 sc)
  have HK := Lib.hid (HS.out.1.end_ k3 (.int .i64 sa) (.int .i64 sb) (.int .i64 sc))
  clear k3 hb hA bY y0 y1 y2 y3 c4
  go_wp2_with fail
  refine bodyPost_ret (by simp [results, Tryz.results27, go_sem, r0, r1, r2]; try rfl) rfl ?_
  exact ⟨rfl, HK.out⟩
set_option maxRecDepth 100000 in
set_option maxHeartbeats 3200000 in
theorem step_off_sem {w : World} {g : Nat} {p : Lay} {F : List Nat} {m : M} (h : EngAt w g p F m) (hf : Fine m) (hn : m.nx = 0) (h6 : (topF m.fr).k ≠ 6) (h7 : (topF m.fr).k ≠ 7) (hd : m.df ≠ 0) (hat : m.at_ m.df m.on = none) : Calls Tryz.prog 27 #[.pointer (some ⟨g, 0, none⟩)] w fun R w' => R = .returned (stV (m.throw (-25)).1) ∧ Keep w g p F (m.throw (-25)).2 w' := by
  obtain ⟨z, hz⟩ : ∃ z, w.heap.size = z := ⟨_, rfl⟩
  have HS := Lib.hid (Start.box0 w h)
  have hE0 := h.touch HS.out.1.t (by simp)
  rw [hz] at HS
  have c6 := hE0.c6
  rw [hn] at c6
  have c3 := hE0.c3
  have hTp := top_keep hE0 hf.fr
  obtain ⟨f, ef⟩ : ∃ f, topF m.fr = f := ⟨_, rfl⟩
  rw [ef] at hTp h6 h7
  obtain ⟨ok, hok⟩ : ∃ ok, decide (m.fr ≠ []) = ok := ⟨_, rfl⟩
  rw [hok] at hTp
  have k6 : (f.k == 6) = false := by simpa using h6
  have k7 : (f.k == 7) = false := by simpa using h7
  clear hok ef h6 h7
  have HAT := Lib.hid (fun (W : World) F1 (hW : EngAt W g p F1 m) => at_no hW hf m.df m.on hat)
  have hd' : (m.df == 0) = false := by simpa using hd
  have HD0 := Lib.hid hd'
  obtain ⟨df, hdf⟩ : ∃ df, m.df = df := ⟨_, rfl⟩
  have HT := Lib.hid (fun (W : World) F1 (hW : EngAt W g p F1 m) => throw_sem hW hf (-25))
  obtain ⟨⟨⟨sa, sb, sc⟩, m'⟩, hq⟩ : ∃ q, m.throw (-25) = q := ⟨_, rfl⟩
  rw [hq] at HT ⊢
  clear hq hE0 h hf hn hd hat hdf hd'
  go_enter Tryz.func27, Tryz.ntmps27
  go_upto_region 1 with fail
  clear hz
  generalize w.alloc (.cells #[.int .i64 0, .int .i64 0, .int .i64 0] 48) = W0 at *
  go_wp2_with fail
  refine hTp.mono ?_
  rintro _ w1 ⟨ta, tn, tc, rfl, k1⟩
  have tY := (Touch.refl [] w1).alloc (.cells #[.int .i64 f.k, .int .i64 f.a, .int .i64 f.b, .int .i64 f.x, .int .i64 f.y, .slice ta tn tc] 45)
  have bY := Blk.new w1 45 #[.int .i64 f.k, .int .i64 f.a, .int .i64 f.b, .int .i64 f.x, .int .i64 f.y, .slice ta tn tc]
  obtain ⟨y, hy⟩ : ∃ y, w1.heap.size = y := ⟨_, rfl⟩
  rw [hy] at bY
  obtain ⟨F1, h1, n1⟩ := k1.open
  have hyF : y ∉ F1 := fun hx => by have := h1.lt y hx; omega
  have h2 := h1.touch tY (by simp)
  have HN := Lib.hid (fun (m2 : M) (W2 : World) (k : Keep (w1.alloc (.cells #[.int .i64 f.k, .int .i64 f.a, .int .i64 f.b, .int .i64 f.x, .int .i64 f.y, .slice ta tn tc] 45)) g p F1 m2 W2) => n1.out _ _ (k.pre tY))
  clear hTp k1 h1 n1 tY c3 c6
  go_upto_region 8 with fail
  clear hy
  generalize w1.alloc (.cells #[.int .i64 f.k, .int .i64 f.a, .int .i64 f.b, .int .i64 f.x, .int .i64 f.y, .slice ta tn tc] 45) = w2 at *
  have y0 := bY.cell 0
  have y1 := bY.cell 1
  have y2 := bY.cell 2
  have y3 := bY.cell 3
  have c4 := h2.c4
  have c5 := h2.c5
  have hd0 := HD0.out
  have h2e := Lib.hid h2
  have HAt := Lib.hid (fun W (t : Touch [] w2 W) => HAT.out W F1 (h2.touch t (by simp)))
  clear h2
  go_upto_region 12 with fail
  clear hd0 y0 y1 y2 y3
  have A4 := fun ob => cell_quiet ((Touch.refl [] w2).alloc ob) c4
  have A5 := fun ob => cell_quiet ((Touch.refl [] w2).alloc ob) c5
  go_cut [6, 7] from 56 to 70 (fun xv okv wc => ∃ y, xv = .pointer (some ⟨y, 0, none⟩) ∧ okv = .bool false ∧ w2.heap.size ≤ y ∧ Blk wc y 56 #[.int .u8 0, .int .i64 0, .int .i64 0] ∧ Touch [] w2 wc)
  case first =>
    go_region_law (first
      | (go_simp; go_at_call 47; refine Calls.mono (HAt.out _ (by first | with_reducible exact (Touch.refl [] w2).drew | with_reducible exact ((Touch.refl [] w2).alloc _).drew)) ?_; rintro _ w5 ⟨rfl, t5⟩; (try (have hb5 := ((Blk.new w2 56 #[.int .u8 0, .int .i64 0, .int .i64 0]).drew.touch t5 (by simp)); have x0 := hb5.cell 0; have x1 := hb5.cell 1; have x2 := hb5.cell 2; have f0 := hb5.frozen 0; have f1 := hb5.frozen 1; have f2 := hb5.frozen 2)); have T5 := Lib.hid t5; clear t5))
    all_goals go_wp2_with fail
    all_goals go_meet
    all_goals first
      | exact ⟨_, rfl, rfl, Nat.le_refl _, hb5.three _ _ _, (((((Touch.refl [] w2).alloc _).drew.trans T5.out (by simp)).setCell (.inr (Nat.le_refl _)) _).setCell (.inr (Nat.le_refl _)) _).setCell (.inr (Nat.le_refl _)) _⟩
      | exact ⟨_, rfl, rfl, T5.out.of_drew.size, Blk.new w5 _ _, T5.out.of_drew.alloc _⟩
  case rest =>
    obtain ⟨y', rfl, rfl, hy', bX, tX⟩ := hcut
    have h3 := h2e.out.touch tX (by simp)
    clear A4 A5 c4 c5 h2e HAt bY
    have hT := HT.out _ _ h3
    clear h3 bX
    go_wp2_with fail
    refine hT.mono ?_
    rintro _ w4 ⟨rfl, k4⟩
    have k4 := HN.out _ _ (k4.pre tX)
    have hb := HS.out.1.blk k4
    obtain ⟨⟨e0, e1, e2⟩, g0, g1, g2⟩ := zeros_of hb
    obtain ⟨r0, r1, r2⟩ := three_read hb (.int .i64 sa) (.int .i64 sb) (.int .i64 sc)
    have HK := Lib.hid (HS.out.1.end_ k4 (.int .i64 sa) (.int .i64 sb) (.int .i64 sc))
    clear k4 hb hT
    go_wp2_with fail
    refine bodyPost_ret (by simp [results, Tryz.results27, go_sem, r0, r1, r2]; try rfl) rfl ?_
    exact ⟨rfl, HK.out⟩
theorem top_same {w : World} {g : Nat} {p : Lay} {F : List Nat} {m : M} (h : EngAt w g p F m) (hfr : m.fr.length ≤ 128) : Calls Tryz.prog 21 #[.pointer (some ⟨p.f, 0, none⟩)] w fun e w' => ∃ a n c, e = .returned (.tuple #[.agg #[.int .i64 (topF m.fr).k, .int .i64 (topF m.fr).a, .int .i64 (topF m.fr).b, .int .i64 (topF m.fr).x, .int .i64 (topF m.fr).y, .slice a n c], .bool (decide (m.fr ≠ []))]) ∧ Touch [] w w' := by
  refine (top_eng h hfr).mono ?_
  rintro _ w1 ⟨⟨a, n, c, rfl⟩, t⟩
  exact ⟨a, n, c, rfl, t⟩
theorem EngAt.setOn0 {w : World} {g : Nat} {p : Lay} {F : List Nat} {m : M} (h : EngAt w g p F m) (n : Int) : EngAt (w.setCell ⟨g, 5, none⟩ (.int .i64 n)) g p F { m with on := n } ∧ Touch F w (w.setCell ⟨g, 5, none⟩ (.int .i64 n)) := by
  have hm := h.own_mem
  obtain ⟨cv, ev, wv, Ff, FS, FI, h, rfl⟩ := h
  obtain ⟨a1, a2, a3, a4, a5, a6, a7⟩ := h.off
  have t : Touch [g] w (w.setCell ⟨g, 5, none⟩ (.int .i64 n)) := (Touch.refl [g] w).setCell (by simp) _
  exact ⟨⟨cv, ev, wv, Ff, FS, FI, ⟨h.blk.set_ 5 _, row_touch h.code t (fun x hx => (a2 x hx).1), row_touch h.ends t (fun x hx => (a3 x hx).1), row_touch h.words t (fun x hx => (a4 x hx).1), h.fr.touch t (fun x hx => (a5 x hx).1), State_touch h.st t (fun x hx => (a6 x hx).1), h.inp.touch t (fun x hx => (a7 x hx).1), h.apart⟩, rfl⟩, t.mono (fun x hx => .inl (by simp at hx; rw [hx]; exact hm))⟩
set_option maxRecDepth 100000 in
set_option maxHeartbeats 3200000 in
theorem step_on_sem {w : World} {g : Nat} {p : Lay} {F : List Nat} {m : M} (h : EngAt w g p F m) (hf : Fine m) (hn : m.nx = 0) (h6 : (topF m.fr).k ≠ 6) (h7 : (topF m.fr).k ≠ 7) (hd : m.df ≠ 0) {op a v : Int} (hat : m.at_ m.df m.on = some (op, a, v)) (q : St × M) (hX : ∀ W, EngAt W g p F { m with on := m.on + 1 } → Touch F w W → Calls Tryz.prog 49 #[.pointer (some ⟨g, 0, none⟩), .agg #[.int .u8 op, .int .i64 a, .int .i64 v]] W fun R w' => R = .returned (stV q.1) ∧ Keep W g p F q.2 w') : Calls Tryz.prog 27 #[.pointer (some ⟨g, 0, none⟩)] w fun R w' => R = .returned (stV q.1) ∧ Keep w g p F q.2 w' := by
  obtain ⟨z, hz⟩ : ∃ z, w.heap.size = z := ⟨_, rfl⟩
  have HS := Lib.hid (Start.box0 w h)
  have hE0 := h.touch HS.out.1.t (by simp)
  rw [hz] at HS
  have c6 := hE0.c6
  rw [hn] at c6
  have c3 := hE0.c3
  have hTp := top_same hE0 hf.fr
  obtain ⟨f, ef⟩ : ∃ f, topF m.fr = f := ⟨_, rfl⟩
  rw [ef] at hTp h6 h7
  obtain ⟨ok, hok⟩ : ∃ ok, decide (m.fr ≠ []) = ok := ⟨_, rfl⟩
  rw [hok] at hTp
  have k6 : (f.k == 6) = false := by simpa using h6
  have k7 : (f.k == 7) = false := by simpa using h7
  clear hok ef h6 h7
  have HAT := Lib.hid (fun (W : World) (t : Touch [] _ W) => (at_some (hE0.touch t (by simp)) hf hat).2.2)
  have hob := (at_some hE0 hf hat).1
  have hd' : (m.df == 0) = false := by simpa using hd
  have HD0 := Lib.hid hd'
  have HE0 := Lib.hid hE0
  obtain ⟨⟨sa, sb, sc⟩, m'⟩ := q
  dsimp only at hX ⊢
  have HX := Lib.hid hX
  have HFl := Lib.hid h.lt
  have hc4 := hE0.c4
  have hc5 := hE0.c5
  have hf5 := fun (W : World) (t : Touch [] _ W) => (hE0.touch t (by simp)).z 5
  have hs5 := fun (W : World) (t : Touch [] _ W) => (hE0.touch t (by simp)).setOn0 (m.on + 1)
  have HS5 := Lib.hid (And.intro hf5 hs5)
  clear hX hE0 h hf hn hd hat hd' hf5 hs5
  go_enter Tryz.func27, Tryz.ntmps27
  go_upto_region 1 with fail
  clear hz
  generalize w.alloc (.cells #[.int .i64 0, .int .i64 0, .int .i64 0] 48) = W0 at *
  go_wp2_with fail
  refine hTp.mono ?_
  rintro _ w1 ⟨ta, tn, tc, rfl, t1⟩
  have tY := t1.alloc (.cells #[.int .i64 f.k, .int .i64 f.a, .int .i64 f.b, .int .i64 f.x, .int .i64 f.y, .slice ta tn tc] 45)
  have bY := Blk.new w1 45 #[.int .i64 f.k, .int .i64 f.a, .int .i64 f.b, .int .i64 f.x, .int .i64 f.y, .slice ta tn tc]
  obtain ⟨y, hy⟩ : ∃ y, w1.heap.size = y := ⟨_, rfl⟩
  rw [hy] at bY
  have c4 := cell_quiet tY hc4
  have c5 := cell_quiet tY hc5
  have HTY := Lib.hid tY
  clear hTp t1 tY c3 hc4 hc5 c6
  go_upto_region 8 with fail
  clear hy
  generalize w1.alloc (.cells #[.int .i64 f.k, .int .i64 f.a, .int .i64 f.b, .int .i64 f.x, .int .i64 f.y, .slice ta tn tc] 45) = w2 at *
  have y0 := bY.cell 0
  have hd0 := HD0.out
  have HAt := Lib.hid (fun W (t : Touch [] w2 W) => HAT.out W (HTY.out.trans t (by simp)))
  go_upto_region 12 with fail
  clear hd0 y0
  have A4 := fun ob => cell_quiet ((Touch.refl [] w2).alloc ob) c4
  have A5 := fun ob => cell_quiet ((Touch.refl [] w2).alloc ob) c5
  go_cut [6, 7] from 56 to 70 (fun xv okv wc => ∃ y, xv = .pointer (some ⟨y, 0, none⟩) ∧ okv = .bool true ∧ w2.heap.size ≤ y ∧ Blk wc y 56 #[.int .u8 op, .int .i64 a, .int .i64 v] ∧ Touch [] w2 wc)
  case first =>
    go_region_law (first
      | (go_simp; go_at_call 47; refine Calls.mono (HAt.out _ (by first | with_reducible exact (Touch.refl [] w2).drew | with_reducible exact ((Touch.refl [] w2).alloc _).drew)) ?_; rintro _ w5 ⟨rfl, t5⟩; (try (have hb5 := ((Blk.new w2 56 #[.int .u8 0, .int .i64 0, .int .i64 0]).drew.touch t5 (by simp)); have x0 := hb5.cell 0; have x1 := hb5.cell 1; have x2 := hb5.cell 2; have f0 := hb5.frozen 0; have f1 := hb5.frozen 1; have f2 := hb5.frozen 2)); have T5 := Lib.hid t5; clear t5))
    all_goals go_wp2_with fail
    all_goals go_meet
    all_goals first
      | exact ⟨_, rfl, rfl, Nat.le_refl _, hb5.three _ _ _, (((((Touch.refl [] w2).alloc _).drew.trans T5.out (by simp)).setCell (.inr (Nat.le_refl _)) _).setCell (.inr (Nat.le_refl _)) _).setCell (.inr (Nat.le_refl _)) _⟩
      | exact ⟨_, rfl, rfl, T5.out.of_drew.size, Blk.new w5 _ _, T5.out.of_drew.alloc _⟩
  case rest =>
    obtain ⟨y', rfl, rfl, hy', bX, tX⟩ := hcut
    have c5 := cell_quiet tX c5
    clear A4 A5 c4 HAt bY
    have tc := HTY.out.trans tX (by simp)
    have f5 := HS5.out.1 wc tc
    have k5 := HS5.out.2 wc tc
    have hyF : y' ∉ F := fun hx => by have h1 := HFl.out y' hx; have h2 := HTY.out.size; have h3 := HS.out.1.t.size; omega
    have bX2 := bX.far (p := ⟨g, 5, none⟩) (fun e => by
      have h1 := HFl.out g HE0.out.own_mem
      have h2 := HTY.out.size
      have h3 := HS.out.1.t.size
      have e : y' = g := e
      omega) (.int .i64 (m.on + 1))
    have HTC := Lib.hid tc
    clear tX tc bX
    go_upto_region 16 with fail
    generalize wc.setCell ⟨g, 5, none⟩ (.int .i64 (m.on + 1)) = w6 at *
    obtain ⟨h6, t6⟩ := k5
    have TW := Lib.hid (show Touch F W0 w6 from (HTC.out.mono (by simp)).trans t6 (fun x hx => .inl hx))
    have hT := HX.out w6 h6 ((HS.out.1.t.mono (by simp)).trans TW.out (fun x hx => .inl hx))
    have j0 := bX2.cell 0
    have j1 := bX2.cell 1
    have j2 := bX2.cell 2
    clear h6 t6 c5 f5 hyF bX2
    go_wp2_with fail
    refine hT.mono ?_
    rintro _ w7 ⟨rfl, k7⟩
    have k7 := Keep.trans TW.out (Sub.refl _ _) k7
    have hb := HS.out.1.blk k7
    obtain ⟨⟨e0, e1, e2⟩, g0, g1, g2⟩ := zeros_of hb
    obtain ⟨r0, r1, r2⟩ := three_read hb (.int .i64 sa) (.int .i64 sb) (.int .i64 sc)
    have HK := Lib.hid (HS.out.1.end_ k7 (.int .i64 sa) (.int .i64 sb) (.int .i64 sc))
    clear k7 hb hT
    go_wp2_with fail
    refine bodyPost_ret (by simp [results, Tryz.results27, go_sem, r0, r1, r2]; try rfl) rfl ?_
    exact ⟨rfl, HK.out⟩
end En
end Go.Proofs.YtdokeddjcpnmiaaGreatDoor

/- Step: what it makes of the engine is M.step. -/
namespace Go.Proofs.YtdokeddjcpnmiaaGreatDoor
open Go.RowKit
namespace En

/-- which number may be done at the next step -/
def NextOp (m : M) (n : Int) : Prop := (m.nx ≠ 0 ∧ ∃ v, m.word m.nx = some (1, n, v)) ∨ (m.nx = 0 ∧ ∃ a v u, m.at_ m.df m.on = some (2, a, v) ∧ m.word a = some (1, n, u))
def CtlOk (m : M) : Prop := ∀ x n v, m.word x = some (2, n, v) → 1 ≤ n ∧ n ≤ 9
/-- what is done with locals -/
def LocOk (D : Int → PS → Int × PS) (g : Nat) (p : Lay) (F : List Nat) (m : M) : Prop := ∀ op a v, m.at_ m.df m.on = some (op, a, v) → (op = 12 ∨ op = 13 ∨ op = 14) → ∀ W, EngAt W g p F { m with on := m.on + 1 } →
  Calls Tryz.prog 87 #[.pointer (some ⟨g, 0, none⟩), .agg #[.int .u8 op, .int .i64 a, .int .i64 v]] W fun R w' => R = .returned (stV (({ m with on := m.on + 1 } : M).does D op a v).1) ∧ Keep W g p F (({ m with on := m.on + 1 } : M).does D op a v).2 w'
theorem Step_sem {w : World} {g : Nat} {p : Lay} {F : List Nat} {m : M} (h : EngAt w g p F m) (hf : Fine m) {wB : World} (hF0 : ∀ x ∈ F, wB.heap.size ≤ x) (tB : Touch [] wB w) {D : Int → PS → Int × PS} (hDf : FineD PS.ok D)
    (hD : ∀ n, NextOp m n → DoOk wB D p.s m.S n) (hctl : CtlOk m) (hL : LocOk D g p F m) :
    Calls Tryz.prog 27 #[.pointer (some ⟨g, 0, none⟩)] w fun R w' => R = .returned (stV (m.step D).1) ∧ Keep w g p F (m.step D).2 w' := by
  by_cases hn : m.nx = 0
  · by_cases h67 : (topF m.fr).k = 6 ∨ (topF m.fr).k = 7
    · rw [show m.step D = ((3, (topF m.fr).k, 0), m) by unfold M.step; rw [if_neg (by rw [hn]; simp), if_pos h67]]
      exact step_wait_sem h hf hn h67
    · have h6 : (topF m.fr).k ≠ 6 := fun e => h67 (.inl e)
      have h7 : (topF m.fr).k ≠ 7 := fun e => h67 (.inr e)
      by_cases hd : m.df = 0
      · rw [show m.step D = m.returns by unfold M.step; rw [if_neg (by rw [hn]; simp), if_neg h67, if_pos hd]]
        exact step_back_sem h hf hn h6 h7 hd
      · cases ha : m.at_ m.df m.on with
        | none =>
          rw [show m.step D = m.throw (-25) by unfold M.step; rw [if_neg (by rw [hn]; simp), if_neg h67, if_neg hd, ha]]
          exact step_off_sem h hf hn h6 h7 hd ha
        | some u =>
          obtain ⟨op, a, v⟩ := u
          rw [show m.step D = ({ m with on := m.on + 1 } : M).does D op a v by unfold M.step; rw [if_neg (by rw [hn]; simp), if_neg h67, if_neg hd, ha]]
          refine step_on_sem h hf hn h6 h7 hd ha _ (fun W hW tW => ?_)
          exact does_sem hW (hf.at_ _ _ _) op a v hF0 (tB.trans tW (fun x hx => .inr (hF0 x hx))) hDf (fun n u ho hu => hD n (.inr ⟨hn, a, v, u, by rw [ha, ho], hu⟩)) (fun n u hu => hctl a n u hu) (fun ho W hW => hL op a v ha ho W hW)
  · rw [show m.step D = { m with nx := 0 }.execute D m.nx by unfold M.step; rw [if_pos hn]]
    refine step_next_sem h hn _ (fun W F1 hW hk hs => ?_)
    have tW : Touch F w W := by obtain ⟨_, _, t, _⟩ := hk; exact t
    have hz : wB.heap.size ≤ w.heap.size := tB.size
    exact execute_sem hW (hf.at_ _ _ 0) m.nx (fun x hx => (hs x hx).elim (hF0 x) (fun h => Nat.le_trans hz h)) (tB.trans tW (fun x hx => .inr (hF0 x hx))) hDf (fun n v hw => hD n (.inl ⟨hn, v, hw⟩)) (fun n v hw => hctl m.nx n v hw)
end En
end Go.Proofs.YtdokeddjcpnmiaaGreatDoor

/- An engine goes on, many steps. -/
namespace Go.Proofs.YtdokeddjcpnmiaaGreatDoor
open Go.RowKit
namespace En

/-- what one step leads to -/
def StepTo (g : Nat) (p : Lay) (wB : World) (m : M) (T : St → M → Prop) : Prop := ∀ w F, EngAt w g p F m → (∀ x ∈ F, wB.heap.size ≤ x) → Touch [] wB w →
  Calls Tryz.prog 27 #[.pointer (some ⟨g, 0, none⟩)] w fun e w' => ∃ s m', e = .returned (stV s) ∧ Keep w g p F m' w' ∧ T s m'
def RunRel (W0 : World) (g : Nat) (p : Lay) (F : List Nat) (Q : Nat → M → Prop) (n k : Nat) (wr : World) : Prop := ∃ m', Keep W0 g p F m' wr ∧ Q (n - k) m'
def RunEnd (w : World) (g : Nat) (p : Lay) (F : List Nat) (R : St → M → Prop) (e : Ending) (w' : World) : Prop := ∃ s m', e = .returned (stV s) ∧ Keep w g p F m' w' ∧ R s m'
set_option maxRecDepth 100000 in
set_option maxHeartbeats 3200000 in
theorem run_sem {w wB : World} {g : Nat} {p : Lay} {F : List Nat} {m : M} (Q : Nat → M → Prop) (R : St → M → Prop)
    (hq : ∀ n m, Q (n + 1) m → StepTo g p wB m (fun s m' => (s.1 = 1 ∧ Q n m') ∨ (s.1 ≠ 1 ∧ R s m'))) (h0 : ∀ m, Q 0 m → R ran m)
    (h : EngAt w g p F m) (hF0 : ∀ x ∈ F, wB.heap.size ≤ x) (tB : Touch [] wB w) (n : Nat) (hn : n ≤ 1000000) (hQ : Q n m) :
    Calls Tryz.prog 20 #[.pointer (some ⟨g, 0, none⟩), .int .i64 n] w (RunEnd w g p F R) := by
  obtain ⟨z, hz⟩ : ∃ z, w.heap.size = z := ⟨_, rfl⟩
  have HS := Lib.hid (Start.new w h)
  have hE0 := h.touch HS.out.t (by simp)
  rw [hz] at HS
  have hR0 : RunRel (w.alloc (.cells #[.int .i64 0, .int .i64 0, .int .i64 0] 48)) g p F Q n 0 (w.alloc (.cells #[.int .i64 0, .int .i64 0, .int .i64 0] 48)) := ⟨m, Keep.refl hE0, hQ⟩
  have HQ := Lib.hid hq
  have H0 := Lib.hid h0
  have HF := Lib.hid (And.intro hF0 (tB.trans HS.out.t (by simp)))
  clear hq h0 hE0 h hF0 tB hQ
  go_enter Tryz.func20, Tryz.ntmps20
  go_upto_region 1 with fail
  clear hz
  generalize w.alloc (.cells #[.int .i64 0, .int .i64 0, .int .i64 0] 48) = W0 at *
  go_wp2_with fail
  go_loopw [7] (fun i wr => ∃ k : Nat, k ≤ n ∧ i = .int .i64 k ∧ RunRel W0 g p F Q n k wr) (fun i _ => n - (intOf i).toNat)
  case atStart => exact ⟨0, Nat.zero_le _, rfl, hR0⟩
  case round =>
    obtain ⟨k, hk, rfl, hr⟩ := hrel
    rcases Nat.lt_or_ge k n with hlt | hge
    · obtain ⟨mk, hkeep, hqk⟩ := hr
      rw [show n - k = (n - (k + 1)) + 1 by omega] at hqk
      obtain ⟨Fk, hEk, tk, sk⟩ := hkeep
      have hS := HQ.out _ _ hqk wr Fk hEk (fun x hx => (sk x hx).elim (HF.out.1 x) (fun hh => Nat.le_trans HF.out.2.size hh)) (HF.out.2.trans tk (fun x hx => .inr (HF.out.1 x hx)))
      have HN := Lib.hid (fun (m2 : M) (W2 : World) (k2 : Keep wr g p Fk m2 W2) => Keep.trans tk sk k2)
      clear hqk hEk tk sk hR0
      go_wp2_with fail
      refine hS.mono ?_
      rintro _ w1 ⟨⟨sa, sb, sc⟩, m1, rfl, k1, hT⟩
      have k1 := HN.out _ _ k1
      have bY := Blk.new w1 48 #[.int .i64 sa, .int .i64 sb, .int .i64 sc]
      have k2 := k1.quiet ((Touch.refl [] w1).alloc (.cells #[.int .i64 sa, .int .i64 sb, .int .i64 sc] 48))
      obtain ⟨y, hy⟩ : ∃ y, w1.heap.size = y := ⟨_, rfl⟩
      rw [hy] at bY
      have HT := Lib.hid hT
      clear hS k1 hT
      go_upto_region 4 with fail
      clear hy
      generalize w1.alloc (.cells #[.int .i64 sa, .int .i64 sb, .int .i64 sc] 48) = w2 at *
      have y0 := bY.cell 0
      have y1 := bY.cell 1
      have y2 := bY.cell 2
      by_cases h1 : sa = 1
      · have hq1 : Q (n - (k + 1)) m1 := by
          rcases HT.out with h | h
          · exact h.2
          · exact absurd h1 h.1
        subst h1
        have HR : Hid (RunRel W0 g p F Q n (k + 1) w2) := Lib.hid ⟨m1, k2, hq1⟩
        clear k2 hq1
        go_wp2_with fail
        go_roundw
        case rel => exact ⟨k + 1, by omega, by go_num, HR.out⟩
        case measure => simp [intOf]; omega
      · have h1' : (sa == 1) = false := by simpa using h1
        have hr1 : R (sa, sb, sc) m1 := by
          rcases HT.out with h | h
          · exact absurd h.1 h1
          · exact h.2
        have hb := HS.out.blk k2
        obtain ⟨⟨e0, e1, e2⟩, g0, g1, g2⟩ := zeros_of hb
        obtain ⟨r0, r1, r2⟩ := three_read hb (.int .i64 sa) (.int .i64 sb) (.int .i64 sc)
        have HK := Lib.hid (HS.out.end_ k2 (.int .i64 sa) (.int .i64 sb) (.int .i64 sc))
        have HR1 := Lib.hid hr1
        clear k2 hb h1 hr1
        go_wp2_with fail
        refine bodyPost_ret (by simp [results, Tryz.results20, go_sem, r0, r1, r2]; try rfl) rfl ?_
        exact ⟨(sa, sb, sc), m1, rfl, HK.out, HR1.out⟩
    · obtain rfl : k = n := by omega
      obtain ⟨mk, hkeep, hqk⟩ := hr
      rw [Nat.sub_self] at hqk
      have hr1 := H0.out _ hqk
      have hb := HS.out.blk hkeep
      obtain ⟨⟨e0, e1, e2⟩, g0, g1, g2⟩ := zeros_of hb
      obtain ⟨r0, r1, r2⟩ := three_read hb (.int .i64 1) (.int .i64 0) (.int .i64 0)
      have HK := Lib.hid (HS.out.end_ hkeep (.int .i64 1) (.int .i64 0) (.int .i64 0))
      have HR1 := Lib.hid hr1
      clear hkeep hb hqk hr1 hR0
      go_wp2_with fail
      refine bodyPost_ret (by simp [results, Tryz.results20, go_sem, r0, r1, r2]; try rfl) rfl ?_
      exact ⟨ran, mk, rfl, HK.out, HR1.out⟩
end En
end Go.Proofs.YtdokeddjcpnmiaaGreatDoor

/- A new engine; made; State, Frames, Exec. -/
namespace Go.Proofs.YtdokeddjcpnmiaaGreatDoor
open Go.RowKit
namespace En

def M.new (S : PS) (I : Ins) : M := ⟨[], [], [], [], 0, 0, 0, S, I⟩
set_option maxRecDepth 100000 in
set_option maxHeartbeats 1600000 in
theorem ENew_any (w : World) (s i : Nat) (FS FI : List Nat) (S : PS) (I : Ins) (hS : StateAt w s FS S) (hI : InAt w i FI I) (hd : ∀ x ∈ FS, x ∉ FI) : Calls Tryz.prog 32 #[.pointer (some ⟨s, 0, none⟩), .pointer (some ⟨i, 0, none⟩)] w fun e w' =>
    ∃ g f F, e = .returned (.pointer (some ⟨g, 0, none⟩)) ∧ EngAt w' g ⟨s, i, f⟩ F (M.new S I) ∧ Touch [] w w' ∧ w.heap.size ≤ g ∧ w.heap.size ≤ f ∧ (∀ x ∈ F, x ∈ FS ∨ x ∈ FI ∨ w.heap.size ≤ x) := by
  have hF := FNew_any w
  have HH := Lib.hid (And.intro hS (And.intro hI hd))
  clear hS hI hd
  go_enter Tryz.func32, Tryz.ntmps32
  go_wp2_with fail
  refine hF.mono ?_
  rintro _ w1 ⟨rfl, hf, t1⟩
  obtain ⟨f, hff⟩ : ∃ f, w.heap.size = f := ⟨_, rfl⟩
  rw [hff] at hf
  have HF := Lib.hid (And.intro hf t1)
  clear hF hf t1
  go_wp2_with fail
  go_ret
  obtain ⟨hf, t1⟩ := HF.out
  obtain ⟨hS, hI, hd⟩ := HH.out
  have hfl := hf.lt f (by simp)
  have t2 := (Touch.refl [] w1).alloc (.cells #[.slice none 0 0, .slice none 0 0, .slice none 0 0, .pointer (some ⟨f, 0, none⟩), .int .i64 0, .int .i64 0, .int .i64 0, .pointer (some ⟨s, 0, none⟩), .pointer (some ⟨i, 0, none⟩)] 85)
  have t := t1.trans t2 (by simp)
  have hSl := hS.lt
  have hIl := hI.lt
  have hz := t1.size
  refine ⟨w1.heap.size, f, footE w1.heap.size (.slice none 0 0) (.slice none 0 0) (.slice none 0 0) [f] FS FI, rfl, ⟨.slice none 0 0, .slice none 0 0, .slice none 0 0, [f], FS, FI, ⟨Blk.new w1 _ _, World.ownsRow_nil _ _ _ _, World.ownsRow_nil _ _ _ _, World.ownsRow_nil _ _ _ _, hf.touch t2 (by simp), State_touch hS t (by simp), hI.touch t (by simp), ?_⟩, rfl⟩, t, hz, by omega, ?_⟩
  · refine ⟨fun x hx B hB hxB => ?_, ⟨fun x hx => by simp [rowOf] at hx, ⟨fun x hx => by simp [rowOf] at hx, ⟨fun x hx => by simp [rowOf] at hx, ⟨fun x hx B hB hxB => ?_, ⟨fun x hx B hB hxB => ?_, ⟨fun x _ B hB => by simp at hB, trivial⟩⟩⟩⟩⟩⟩⟩
    · simp at hx
      subst hx
      simp only [List.mem_cons, List.not_mem_nil, or_false] at hB
      rcases hB with rfl | rfl | rfl | rfl | rfl | rfl
      · simp [rowOf] at hxB
      · simp [rowOf] at hxB
      · simp [rowOf] at hxB
      · simp at hxB; omega
      · have := hSl _ hxB; omega
      · have := hIl _ hxB; omega
    · simp at hx
      subst hx
      simp only [List.mem_cons, List.not_mem_nil, or_false] at hB
      rcases hB with rfl | rfl
      · have := hSl _ hxB; omega
      · have := hIl _ hxB; omega
    · simp only [List.mem_cons, List.not_mem_nil, or_false] at hB
      subst hB
      exact hd x hx hxB
  · intro x hx
    rw [foot_mem] at hx
    rcases hx with e | e | e | e | e | e | e
    · exact .inr (.inr (by omega))
    · simp [rowOf] at e
    · simp [rowOf] at e
    · simp [rowOf] at e
    · simp at e; exact .inr (.inr (by omega))
    · exact .inl e
    · exact .inr (.inl e)
def ins0' : Ins := ⟨.none, [], 0⟩
/-- a new engine of 1,024 bytes -/
def Fresh (w : World) (g : Nat) (p : Lay) (F : List Nat) (S : PS) (w' : World) : Prop := EngAt w' g p F (M.new S ins0') ∧ (∀ x ∈ F, w.heap.size ≤ x) ∧ Touch [] w w' ∧ S.n = 1024 ∧ S.st = [] ∧ S.bs = putF (List.replicate 1024 0) 0 10 8 ∧ S.here = 8 ∧ S.out = [] ∧ S.made = []
theorem in_new (w : World) : InAt (w.alloc (.cells (inCells ⟨.none, [], 0⟩ (.slice none 0 0)) 115)) w.heap.size [w.heap.size] ins0' := ⟨.slice none 0 0, Blk.new _ _ _, rfl, by simp [rowOf], World.ownsRow_nil _ _ _ _⟩
section
variable {w : World} {g : Nat} {p : Lay} {F : List Nat} {m : M}
theorem state_eng (h : EngAt w g p F m) : Calls Tryz.prog 14 #[.pointer (some ⟨g, 0, none⟩)] w fun e w' => e = .returned (.pointer (some ⟨p.s, 0, none⟩)) ∧ w = w' := by
  have c7 := h.c7
  clear h
  go_enter Tryz.func14, Tryz.ntmps14
  go_wp2_with fail
  go_ret
  exact ⟨rfl, rfl⟩
theorem frames_eng (h : EngAt w g p F m) : Calls Tryz.prog 17 #[.pointer (some ⟨g, 0, none⟩)] w fun e w' => e = .returned (.pointer (some ⟨p.f, 0, none⟩)) ∧ w = w' := by
  have c3 := h.c3
  clear h
  go_enter Tryz.func17, Tryz.ntmps17
  go_wp2_with fail
  go_ret
  exact ⟨rfl, rfl⟩
set_option maxHeartbeats 1000000 in
theorem exec_yes (h : EngAt w g p F m) (hw : m.words.length ≤ 1000000) (x : Int) (u : Int × Int × Int) (hx : m.word x = some u) : Calls Tryz.prog 19 #[.pointer (some ⟨g, 0, none⟩), .int .i64 x] w fun e w' => e = .returned (.int .i64 0) ∧ Keep w g p F { m with nx := x } w' := by
  have hF := find_sem h hw x
  unfold FoundW at hF
  rw [hx] at hF
  have c6 := h.c6
  have f6 := h.z 6
  have HK := Lib.hid (h.setNext x)
  clear h hx
  go_enter Tryz.func19, Tryz.ntmps19
  go_wp2_with fail
  refine hF.mono ?_
  rintro _ _ ⟨_, rfl, rfl, b, i, rfl, _⟩
  clear hF
  go_wp2_with fail
  go_ret
  exact ⟨rfl, HK.out⟩
end
def MadeIs (w : World) (e : Ending) (w' : World) : Prop := ∃ g p F S, e = .returned (.pointer (some ⟨g, 0, none⟩)) ∧ Fresh w g p F S w'
theorem PMem_cell (w : World) (s k : Nat) (c : w.cell? ⟨s, 2, none⟩ = some (.pointer (some ⟨k, 0, none⟩))) : Calls Tryz.prog 56 #[.pointer (some ⟨s, 0, none⟩)] w fun e w' => e = .returned (.pointer (some ⟨k, 0, none⟩)) ∧ w = w' := by
  go_enter Tryz.func56, Tryz.ntmps56
  go_wp2_with fail
  go_ret
  exact ⟨rfl, rfl⟩
set_option maxRecDepth 100000 in
set_option maxHeartbeats 1600000 in
theorem made_any (w : World) : Calls Tryz.prog 37 #[] w (MadeIs w) := by
  have hP := PNew_ok 1024 (by decide) (by decide) (by decide) w
  rw [show ((1024 : Nat) : Int) = 1024 from rfl] at hP
  go_enter Tryz.func37, Tryz.ntmps37
  go_wp2_with fail
  refine hP.mono ?_
  rintro _ w1 ⟨s, FS, S, rfl, hS, hFS, t1, e1, e2, e3, e4, e5, e6⟩
  have hb := hS
  obtain ⟨FK, ov, mv, hp, rfl⟩ := hb
  have hK := PStack_cell w1 s S.k (hp.blk.cell 1)
  have hM := PMem_cell w1 s S.m (hp.blk.cell 2)
  have HH := Lib.hid (And.intro hS (And.intro hFS (And.intro t1 (And.intro e1 (And.intro e2 (And.intro e3 (And.intro e4 (And.intro e5 e6))))))))
  clear hP hS hFS t1 e1 e2 e3 e4 e5 e6 hp
  go_wp2_with fail
  refine hK.mono ?_
  rintro _ _ ⟨rfl, rfl⟩
  clear hK
  go_wp2_with fail
  refine hM.mono ?_
  rintro _ _ ⟨rfl, rfl⟩
  clear hM
  have hN := SrcNew_any w1
  go_wp2_with fail
  refine hN.mono ?_
  rintro _ _ ⟨rfl, rfl⟩
  clear hN
  have hI := in_new w1
  have tI := (Touch.refl [] w1).alloc (.cells (inCells ⟨.none, [], 0⟩ (.slice none 0 0)) 115)
  have hS2 := State_touch HH.out.1 tI (by simp)
  have hlt := HH.out.1.lt
  have hE := ENew_any _ s w1.heap.size _ [w1.heap.size] S ins0' hS2 hI (fun x hx hx2 => by simp at hx2; have := hlt x hx; omega)
  have HI := Lib.hid (And.intro tI (show w1.heap.size < (w1.alloc (.cells (inCells ⟨.none, [], 0⟩ (.slice none 0 0)) 115)).heap.size by simp))
  clear hI tI hS2 hlt
  obtain ⟨i, hi⟩ : ∃ i, w1.heap.size = i := ⟨_, rfl⟩
  rw [hi] at hE
  go_wp2_with fail
  refine hE.mono ?_
  rintro _ w2 ⟨g, f, F, rfl, hEn, t2, hg, hf, hF⟩
  have hSt := state_eng hEn
  have hFr := frames_eng hEn
  obtain ⟨hS, hFS, t1, e1, e2, e3, e4, e5, e6⟩ := HH.out
  have HR : Hid (Fresh w g ⟨s, i, f⟩ F S w2) := Lib.hid ⟨hEn, fun x hx => (hF x hx).elim (hFS x) (fun h => h.elim (fun h => by simp at h; have := t1.size; omega) (fun h => by have := t1.size; have := HI.out.2; omega)), (t1.trans HI.out.1 (by simp)).trans t2 (by simp), e1, e2, e3, e4, e5, e6⟩
  clear hE hEn t2 hg hf hF hS hFS t1 e1 e2 e3 e4 e5 e6 hi
  go_wp2_with fail
  refine hSt.mono ?_
  rintro _ _ ⟨rfl, rfl⟩
  clear hSt
  go_wp2_with fail
  refine hFr.mono ?_
  rintro _ _ ⟨rfl, rfl⟩
  clear hFr
  go_wp2_with fail
  go_ret
  exact ⟨g, _, F, S, rfl, HR.out⟩
end En
end Go.Proofs.YtdokeddjcpnmiaaGreatDoor
